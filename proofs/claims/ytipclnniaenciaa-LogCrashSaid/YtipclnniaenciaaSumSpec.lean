/- What the functions of package sum and of its reference compute, as plain functions on lists of bytes: the checksum, sealing, opening, for every list. -/
import Derived.Test.YtipclnniaenciaaPAx
import Derived.Laws.BitsLemmas
namespace Go.Proofs.Ytipclnniaenciaa.Spec
open Go.RowKit Go.Proofs.Ytipclnniaenciaa.PA Go.Proofs.YtipclnniaenciaaW.PrintWords Go.Proofs.YtipclnniaenciaaW.PrintLast Go.Proofs.YtipclnniaenciaaW.PrintMore
set_option linter.unusedVariables false

/-! rounds -/
theorem ev_pos {α : Type} {c : Prop} [Decidable c] {f g : Nat → Option α} {r : α} (h : c) (k : Ev f r) : Ev (fun n => if c then f n else g n) r := k.congr fun _ => if_pos h
theorem ev_neg {α : Type} {c : Prop} [Decidable c] {f g : Nat → Option α} {r : α} (h : ¬ c) (k : Ev g r) : Ev (fun n => if c then f n else g n) r := k.congr fun _ => if_neg h
theorem ev_some {α β : Type} {a : α} {f : Nat → α → Option β} {r : β} (k : Ev (fun n => f n a) r) : Ev (fun n => (some a).bind (f n)) r := Ev.bind (Ev.now a) k
theorem ev_now {α : Type} {a r : α} (h : a = r) : Ev (fun _ => some a) r := h ▸ Ev.now a

/-! the register -/
def poly : BitVec 32 := 0xedb88320#32
def ones : BitVec 32 := 4294967295#32
def step (n : BitVec 32) : BitVec 32 := if n.getLsbD 0 then (n >>> 1) ^^^ poly else n >>> 1
def T (n : BitVec 32) : BitVec 32 := step (step (step (step (step (step (step (step n)))))))
theorem step_xor (a b : BitVec 32) : step (a ^^^ b) = step a ^^^ step b := by
  unfold step
  rw [BitVec.getLsbD_xor, BitVec.ushiftRight_xor_distrib]
  cases a.getLsbD 0 <;> cases b.getLsbD 0 <;> simp
  · rw [BitVec.xor_assoc]
  · rw [BitVec.xor_assoc, BitVec.xor_assoc, BitVec.xor_comm poly]
  · rw [BitVec.xor_assoc, ← BitVec.xor_assoc poly, BitVec.xor_comm poly, BitVec.xor_assoc, BitVec.xor_self]; simp
theorem step_zero (a : BitVec 32) (h : step a = 0#32) : a = 0#32 := by
  unfold step at h
  by_cases h0 : a.getLsbD 0 = true
  · rw [if_pos h0] at h
    have := congrArg (fun x => x.getLsbD 31) h
    simp [poly] at this
  · rw [if_neg h0] at h
    apply BitVec.eq_of_getLsbD_eq
    intro i hi
    rcases Nat.eq_zero_or_pos i with rfl | hp
    · simpa using h0
    · have := congrArg (fun x => x.getLsbD (i - 1)) h
      simp at this
      rw [show 1 + (i - 1) = i from by omega] at this
      simpa using this
theorem T_xor (a b : BitVec 32) : T (a ^^^ b) = T a ^^^ T b := by unfold T; simp only [step_xor]
theorem T_zero (a : BitVec 32) (h : T a = 0#32) : a = 0#32 := by unfold T at h; repeat' (first | exact h | replace h := step_zero _ h)
theorem T_byte : ∀ c : Fin 256, c.val ≠ 0 → 256 ≤ (T (BitVec.ofNat 32 c.val)).toNat := by decide +kernel
def cb (c : Int) : BitVec 32 := BitVec.ofInt 32 (c % 4294967296)
def upd (v : BitVec 32) (c : Int) : BitVec 32 := T (v ^^^ cb c)
def regV (l : List Int) : BitVec 32 := l.foldl upd ones
def sm (l : List Int) : Int := ((ones ^^^ regV l).toNat : Int)
theorem sm_range (l : List Int) : 0 ≤ sm l ∧ sm l < 4294967296 := by
  unfold sm
  have := (ones ^^^ regV l).isLt
  omega

theorem wrap32u (v : BitVec 32) : IntKind.u32.wrap (v.toNat : Int) = (v.toNat : Int) := by
  rw [IntKind.wrap_u32]
  have := v.isLt
  omega
theorem xor32 (v : BitVec 32) (y : Int) : Go.bits .xor .u32 (v.toNat : Int) y = ((v ^^^ BitVec.ofInt 32 y).toNat : Int) := by
  have e : BitVec.ofInt 32 (v.toNat : Int) = v := by simp
  show IntKind.u32.wrap ((BitVec.ofInt 32 (v.toNat : Int) ^^^ BitVec.ofInt 32 y).toNat : Int) = _
  rw [e, wrap32u]
theorem xor_ones (v : BitVec 32) : Go.bits .xor .u32 4294967295 (v.toNat : Int) = ((ones ^^^ v).toNat : Int) := by
  have e : BitVec.ofInt 32 (v.toNat : Int) = v := by simp
  show IntKind.u32.wrap ((BitVec.ofInt 32 4294967295 ^^^ BitVec.ofInt 32 (v.toNat : Int)).toNat : Int) = _
  rw [e, wrap32u]; rfl
theorem half (v : BitVec 32) : (v.toNat : Int) / (2 : Int) = ((v >>> 1).toNat : Int) := by
  rw [BitVec.toNat_ushiftRight, Nat.shiftRight_succ, Nat.shiftRight_zero]; omega
theorem half' (v : BitVec 32) : Int.tdiv (v.toNat : Int) (2 : Int) % (4294967296 : Int) = ((v >>> 1).toNat : Int) := by
  rw [← half, Int.tdiv_eq_ediv_of_nonneg (by omega)]
  have := v.isLt
  omega
theorem lsb_nat (v : BitVec 32) : v.getLsbD 0 = decide (v.toNat % 2 = 1) := by simp [BitVec.getLsbD, Nat.testBit_zero]
theorem odd_and (v : BitVec 32) : Go.bits .and .u32 (v.toNat : Int) 1 = 1 ↔ v.getLsbD 0 = true := by
  have e : BitVec.ofInt 32 (v.toNat : Int) = v := by simp
  have e2 : Go.bits .and .u32 (v.toNat : Int) 1 = ((v &&& 1#32).toNat : Int) := by
    show IntKind.u32.wrap ((BitVec.ofInt 32 (v.toNat : Int) &&& BitVec.ofInt 32 1).toNat : Int) = _
    rw [e, wrap32u]; rfl
  rw [e2, lsb_nat, BitVec.toNat_and, decide_eq_true_iff]
  have : (1#32).toNat = 1 := rfl
  rw [this, Nat.and_one_is_mod]
  omega
theorem odd_mod (v : BitVec 32) : Int.tmod (v.toNat : Int) 2 = 1 ↔ v.getLsbD 0 = true := by
  rw [lsb_nat, decide_eq_true_iff, Int.tmod_eq_emod_of_nonneg (by omega)]
  omega
theorem poly_int : BitVec.ofInt 32 3988292384 = poly := rfl
theorem step_odd {v : BitVec 32} (h : v.getLsbD 0 = true) : step v = (v >>> 1) ^^^ poly := by unfold step; rw [if_pos h]
theorem step_even {v : BitVec 32} (h : ¬ v.getLsbD 0 = true) : step v = v >>> 1 := by unfold step; rw [if_neg h]

/-! the program's loop over bits, and the reference's -/
theorem of_bit {l : List Int} {n i r : Int} (v : BitVec 32) (j : Nat) (hj : j < 8) (h : Ev (fun k => sum_Of.l1 k ((step v).toNat : Int) l n i ((j + 1 : Nat) : Int)) r) :
    Ev (fun k => sum_Of.l1 k (v.toNat : Int) l n i (j : Int)) r := by
  refine Ev.step (f := fun k => if (j : Int) < 8 then (if (Go.bits .and .u32 (v.toNat : Int) 1) = 1 then (sum_Of.l1 k (Go.bits .xor .u32 ((v.toNat : Int) / 2) 3988292384) l n i (wrap64 ((j : Int) + 1))) else (sum_Of.l1 k ((v.toNat : Int) / 2) l n i (wrap64 ((j : Int) + 1)))) else (sum_Of.l0 k (v.toNat : Int) l n (wrap64 (i + 1)))) (fun k => by simp only [sum_Of.l1]) ?_
  refine ev_pos (by omega) ?_
  have e : wrap64 ((j : Int) + 1) = ((j + 1 : Nat) : Int) := by unfold wrap64; omega
  rw [e, half, xor32, poly_int]
  by_cases o : v.getLsbD 0 = true
  · refine ev_pos ((odd_and v).2 o) ?_
    rw [← step_odd o]; exact h
  · refine ev_neg (fun c => o ((odd_and v).1 c)) ?_
    rw [← step_even o]; exact h
theorem of_byte {l : List Int} {n i r : Int} (v : BitVec 32) (h : Ev (fun k => sum_Of.l0 k ((T v).toNat : Int) l n (wrap64 (i + 1))) r) :
    Ev (fun k => sum_Of.l1 k (v.toNat : Int) l n i 0) r := by
  refine of_bit v 0 (by omega) (of_bit _ 1 (by omega) (of_bit _ 2 (by omega) (of_bit _ 3 (by omega) (of_bit _ 4 (by omega) (of_bit _ 5 (by omega) (of_bit _ 6 (by omega) (of_bit _ 7 (by omega) ?_)))))))
  refine Ev.step (f := fun k => sum_Of.l0 k ((T v).toNat : Int) l n (wrap64 (i + 1))) (fun k => ?_) h
  simp only [sum_Of.l1]
  rw [if_neg (by omega)]; rfl
theorem of_loop (l : List Int) (hn : l.length < 140737488355328) : ∀ (d i : Nat) (v : BitVec 32), l.length - i = d → i ≤ l.length →
    Ev (fun k => sum_Of.l0 k (v.toNat : Int) l (l.length : Int) (i : Int)) ((ones ^^^ (l.drop i).foldl upd v).toNat : Int) := by
  intro d
  induction d with
  | zero =>
    intro i v hd hi
    have e : l.drop i = [] := List.drop_eq_nil_of_le (by omega)
    rw [e, List.foldl_nil]
    refine Ev.step (f := fun _ => some (Go.bits .xor .u32 4294967295 (v.toNat : Int))) (fun k => ?_) (ev_now (xor_ones v))
    simp only [sum_Of.l0]
    rw [if_neg (by omega)]
  | succ d ih =>
    intro i v hd hi
    have hl : i < l.length := by omega
    have e : l.drop i = l[i] :: l.drop (i + 1) := List.drop_eq_getElem_cons hl
    rw [e, List.foldl_cons]
    have er : rd l (i : Int) = l[i] := by unfold rd; simp [List.getD_eq_getElem?_getD, hl]
    refine Ev.step (f := fun k => sum_Of.l1 k (((v ^^^ cb l[i]).toNat : Nat) : Int) l (l.length : Int) (i : Int) 0) (fun k => ?_) ?_
    · simp only [sum_Of.l0]
      rw [if_pos (by omega), if_pos (by omega), if_pos (by omega), er, xor32]; rfl
    · refine of_byte _ ?_
      rw [show wrap64 ((i : Int) + 1) = ((i + 1 : Nat) : Int) from by unfold wrap64; omega]
      exact ih (i + 1) _ (by omega) (by omega)
theorem of_ev (l : List Int) (hn : l.length < 140737488355328) : Ev (fun k => sum_Of.f k l) (sm l) := by
  have := of_loop l hn l.length 0 ones rfl (by omega)
  exact this

theorem ref_bit {l : List Int} {i r : Int} (v : BitVec 32) (j : Nat) (hj : j < 8) (h : Ev (fun k => estafetteref08_Sum.l1 k l ((step v).toNat : Int) i ((j + 1 : Nat) : Int)) r) :
    Ev (fun k => estafetteref08_Sum.l1 k l (v.toNat : Int) i (j : Int)) r := by
  refine Ev.step (f := fun k => if (j : Int) < 8 then (if (Int.tmod (v.toNat : Int) 2) = 1 then (estafetteref08_Sum.l1 k l (Go.bits .xor .u32 ((Int.tdiv (v.toNat : Int) 2) % 4294967296) 3988292384) i (wrap64 ((j : Int) + 1))) else (estafetteref08_Sum.l1 k l ((Int.tdiv (v.toNat : Int) 2) % 4294967296) i (wrap64 ((j : Int) + 1)))) else (estafetteref08_Sum.l0 k l (v.toNat : Int) (wrap64 (i + 1)))) (fun k => by simp only [estafetteref08_Sum.l1]) ?_
  refine ev_pos (by omega) ?_
  have e : wrap64 ((j : Int) + 1) = ((j + 1 : Nat) : Int) := by unfold wrap64; omega
  rw [e, half', xor32, poly_int]
  by_cases o : v.getLsbD 0 = true
  · refine ev_pos ((odd_mod v).2 o) ?_
    rw [← step_odd o]; exact h
  · refine ev_neg (fun c => o ((odd_mod v).1 c)) ?_
    rw [← step_even o]; exact h
theorem ref_byte {l : List Int} {i r : Int} (v : BitVec 32) (h : Ev (fun k => estafetteref08_Sum.l0 k l ((T v).toNat : Int) (wrap64 (i + 1))) r) :
    Ev (fun k => estafetteref08_Sum.l1 k l (v.toNat : Int) i 0) r := by
  refine ref_bit v 0 (by omega) (ref_bit _ 1 (by omega) (ref_bit _ 2 (by omega) (ref_bit _ 3 (by omega) (ref_bit _ 4 (by omega) (ref_bit _ 5 (by omega) (ref_bit _ 6 (by omega) (ref_bit _ 7 (by omega) ?_)))))))
  refine Ev.step (f := fun k => estafetteref08_Sum.l0 k l ((T v).toNat : Int) (wrap64 (i + 1))) (fun k => ?_) h
  simp only [estafetteref08_Sum.l1]
  rw [if_neg (by omega)]; rfl
theorem ref_loop (l : List Int) (hn : l.length < 140737488355328) : ∀ (d i : Nat) (v : BitVec 32), l.length - i = d → i ≤ l.length →
    Ev (fun k => estafetteref08_Sum.l0 k l (v.toNat : Int) (i : Int)) ((ones ^^^ (l.drop i).foldl upd v).toNat : Int) := by
  intro d
  induction d with
  | zero =>
    intro i v hd hi
    have e : l.drop i = [] := List.drop_eq_nil_of_le (by omega)
    rw [e, List.foldl_nil]
    refine Ev.step (f := fun _ => some (Go.bits .xor .u32 4294967295 (v.toNat : Int))) (fun k => ?_) (ev_now (xor_ones v))
    simp only [estafetteref08_Sum.l0]
    rw [if_neg (by omega)]
  | succ d ih =>
    intro i v hd hi
    have hl : i < l.length := by omega
    have e : l.drop i = l[i] :: l.drop (i + 1) := List.drop_eq_getElem_cons hl
    rw [e, List.foldl_cons]
    have er : rd l (i : Int) = l[i] := by unfold rd; simp [List.getD_eq_getElem?_getD, hl]
    refine Ev.step (f := fun k => estafetteref08_Sum.l1 k l (((v ^^^ cb l[i]).toNat : Nat) : Int) (i : Int) 0) (fun k => ?_) ?_
    · simp only [estafetteref08_Sum.l0]
      rw [if_pos (by omega), if_pos (by omega), er, xor32]; rfl
    · refine ref_byte _ ?_
      rw [show wrap64 ((i : Int) + 1) = ((i + 1 : Nat) : Int) from by unfold wrap64; omega]
      exact ih (i + 1) _ (by omega) (by omega)
theorem ref_ev (l : List Int) (hn : l.length < 140737488355328) : Ev (fun k => estafetteref08_Sum.f k l) (sm l) := by
  have := ref_loop l hn l.length 0 ones rfl (by omega)
  exact this

/-! sealed bytes -/
def tail4 (s : Int) : List Int := [s % 256, s / 256 % 256, s / 65536 % 256, s / 16777216 % 256]
def sealL (l : List Int) : List Int := l ++ tail4 (sm l)
theorem seal_ev (l : List Int) (hn : l.length < 140737488355000) : Ev (fun k => sum_Seal.f k l) (sealL l) := by
  unfold sum_Seal.f
  refine Ev.bind (of_ev l (by omega)) ?_
  refine ev_pos (by simp; omega) ?_
  refine ev_some (ev_some ?_)
  refine ev_pos (by simp; omega) ?_
  exact ev_now rfl
theorem refSeal_ev (l : List Int) (hn : l.length < 140737488355000) : Ev (fun k => estafetteref08_Seal.f k l) (sealL l) := by
  unfold estafetteref08_Seal.f
  refine Ev.bind (ref_ev l (by omega)) ?_
  refine ev_some ?_
  refine ev_pos (by simp; omega) ?_
  have one : ∀ (x : Int) (y : List Int) (j : Nat) (r : List Int), y.length < 140737488355100 → j < 4 → Ev (fun k => estafetteref08_Seal.l0 k (x / 256) (y ++ [x % 256]) ((j + 1 : Nat) : Int)) r → Ev (fun k => estafetteref08_Seal.l0 k x y (j : Int)) r := by
    intro x y j r hy hj h
    refine Ev.step (f := fun k => estafetteref08_Seal.l0 k (x / 256) (y ++ [x % 256]) ((j + 1 : Nat) : Int)) (fun k => ?_) h
    simp only [estafetteref08_Seal.l0]
    rw [if_pos (by omega), if_pos (by omega), show wrap64 ((j : Int) + 1) = ((j + 1 : Nat) : Int) from by unfold wrap64; omega]
  refine one _ _ 0 _ (by simp; omega) (by omega) (one _ _ 1 _ (by simp; omega) (by omega) (one _ _ 2 _ (by simp; omega) (by omega) (one _ _ 3 _ (by simp; omega) (by omega) ?_)))
  refine Ev.step (f := fun _ => some _) (fun k => by simp only [estafetteref08_Seal.l0]; rw [if_neg (by omega)]) (ev_now ?_)
  unfold sealL
  generalize sm l = s
  unfold tail4
  simp
  omega
theorem same_loop (a b : List Int) (hn : a.length < 140737488355328) (he : a.length = b.length) : ∀ (d i : Nat), a.length - i = d → i ≤ a.length →
    Ev (fun k => estafetteref08_Same.l0 k a b (i : Int)) (decide (a.drop i = b.drop i)) := by
  intro d
  induction d with
  | zero =>
    intro i hd hi
    rw [List.drop_eq_nil_of_le (by omega : a.length ≤ i), List.drop_eq_nil_of_le (by omega : b.length ≤ i)]
    exact Ev.step (f := fun _ => some true) (fun k => by simp only [estafetteref08_Same.l0]; rw [if_neg (by omega)]) (ev_now (by simp))
  | succ d ih =>
    intro i hd hi
    have ha : i < a.length := by omega
    have hb : i < b.length := by omega
    rw [List.drop_eq_getElem_cons ha, List.drop_eq_getElem_cons hb]
    have ea : rd a (i : Int) = a[i] := by unfold rd; simp [List.getD_eq_getElem?_getD, ha]
    have eb : rd b (i : Int) = b[i] := by unfold rd; simp [List.getD_eq_getElem?_getD, hb]
    refine Ev.step (f := fun k => if a[i] = b[i] then estafetteref08_Same.l0 k a b ((i + 1 : Nat) : Int) else some false) (fun k => ?_) ?_
    · simp only [estafetteref08_Same.l0]
      rw [if_pos (by omega), if_pos (by omega), if_pos (by omega), ea, eb, show wrap64 ((i : Int) + 1) = ((i + 1 : Nat) : Int) from by unfold wrap64; omega]
    · by_cases c : a[i] = b[i]
      · refine ev_pos c ?_
        have e3 : decide (a[i] :: a.drop (i + 1) = b[i] :: b.drop (i + 1)) = decide (a.drop (i + 1) = b.drop (i + 1)) := by
          rw [decide_eq_decide, List.cons.injEq]; exact ⟨fun h => h.2, fun h => ⟨c, h⟩⟩
        rw [e3]
        exact ih (i + 1) (by omega) (by omega)
      · refine ev_neg c (ev_now ?_)
        symm
        rw [decide_eq_false_iff_not, List.cons.injEq]
        exact fun h => c h.1
theorem same_ev (a b : List Int) (hn : a.length < 140737488355328) : Ev (fun k => estafetteref08_Same.f k a b) (decide (a = b)) := by
  unfold estafetteref08_Same.f
  by_cases c : a.length = b.length
  · refine ev_pos (by omega) ?_
    have := same_loop a b hn c a.length 0 (by omega) (by omega)
    exact this
  · exact ev_neg (by omega) (ev_now (by symm; rw [decide_eq_false_iff_not]; intro e; exact c (by rw [e])))

/-! opening -/
def isByte (c : Int) : Prop := 0 ≤ c ∧ c < 256
def le4 (t : List Int) : Int := rd t 0 + 256 * rd t 1 + 65536 * rd t 2 + 16777216 * rd t 3
def openL (l : List Int) : List Int × Bool :=
  if l.length < 4 then ([], false) else if le4 (l.drop (l.length - 4)) = sm (l.take (l.length - 4)) then (l.take (l.length - 4), true) else ([], false)
theorem or32 (i x c : Int) (hx : 0 ≤ x) (hc : isByte c) (n : Nat) (hn : n = 8 * i) (hi : 0 ≤ i) (hi4 : i < 4) (hxn : x < 2 ^ n) : Go.bits .or .u32 x (shl .u32 (c % 4294967296) n) = x + c * 2 ^ n := by
  obtain ⟨h0, h1⟩ := hc
  obtain ⟨a, rfl⟩ := Int.eq_ofNat_of_zero_le hx
  obtain ⟨b, rfl⟩ := Int.eq_ofNat_of_zero_le h0
  have hn24 : n ≤ 24 := by omega
  have hb : b < 256 := by omega
  have ha : a < 2 ^ n := by exact_mod_cast hxn
  have hp : 2 ^ n ≤ 2 ^ 24 := Nat.pow_le_pow_right (by decide) hn24
  have hbn : b * 2 ^ n < 2 ^ 32 := by
    have : b * 2 ^ n ≤ 255 * 2 ^ 24 := Nat.mul_le_mul (by omega) hp
    omega
  have es : shl .u32 ((b : Int) % 4294967296) (n : Int) = ((b * 2 ^ n : Nat) : Int) := by
    unfold shl
    rw [IntKind.wrap_u32, show ((b : Int) % 4294967296) = (b : Int) from by omega, show min (n : Int).toNat IntKind.u32.bits = n from by
      have : IntKind.u32.bits = 32 := rfl
      omega]
    have : ((b : Int) * 2 ^ n) = ((b * 2 ^ n : Nat) : Int) := by push_cast; rfl
    rw [this]
    omega
  rw [es]
  have hk : ∀ m : Int, 0 ≤ m → m < 2 ^ 32 → IntKind.u32.wrap m = m := fun m h0 h1 => by rw [IntKind.wrap_u32]; omega
  rw [(bits_nat .u32 32 (by decide) hk a (b * 2 ^ n) (by omega) hbn).2, Nat.or_comm, Nat.mul_comm, ← Nat.two_pow_add_eq_or_of_lt ha b]
  push_cast
  rw [Int.mul_comm]
  omega
theorem rd_byte {l : List Int} (h : ∀ x ∈ l, isByte x) (i : Int) : isByte (rd l i) := by
  unfold rd
  rw [List.getD_eq_getElem?_getD]
  by_cases c : i.toNat < l.length
  · rw [List.getElem?_eq_getElem c]
    exact h _ (List.getElem_mem c)
  · rw [List.getElem?_eq_none (by omega)]
    exact ⟨by simp, by simp⟩
theorem open_ev (l : List Int) (hl : ∀ x ∈ l, isByte x) (hn : l.length < 140737488355000) : Ev (fun k => sum_Open.f k l) (openL l) := by
  unfold sum_Open.f openL
  by_cases c : l.length < 4
  · rw [if_pos c]
    exact ev_pos (by omega) (ev_now rfl)
  · rw [if_neg c]
    have ew : wrap64 ((l.length : Int) - 4) = ((l.length - 4 : Nat) : Int) := by unfold wrap64; omega
    refine ev_neg (by omega) ?_
    rw [ew, Int.toNat_natCast]
    refine ev_pos (by omega) (ev_pos (by omega) (ev_some ?_))
    have ht : (l.drop (l.length - 4)).length = 4 := by rw [List.length_drop]; omega
    have hb : ∀ x ∈ l.drop (l.length - 4), isByte x := fun x hx => hl x (List.mem_of_mem_drop hx)
    have htk : (l.take (l.length - 4)).length < 140737488355000 := by rw [List.length_take]; omega
    rw [ht]
    generalize l.drop (l.length - 4) = t at *
    generalize l.take (l.length - 4) = a at *
    have one : ∀ (x : Int) (j : Nat) (r : List Int × Bool), 0 ≤ x → x < 2 ^ (8 * j) → j < 4 → Ev (fun k => sum_Open.l0 k a (x + rd t (j : Int) * 2 ^ (8 * j)) t ((4 : Nat) : Int) ((j + 1 : Nat) : Int)) r → Ev (fun k => sum_Open.l0 k a x t ((4 : Nat) : Int) (j : Int)) r := by
      intro x j r h0 h1 hj h
      refine Ev.step (f := fun k => sum_Open.l0 k a (x + rd t (j : Int) * 2 ^ (8 * j)) t ((4 : Nat) : Int) ((j + 1 : Nat) : Int)) (fun k => ?_) h
      simp only [sum_Open.l0]
      have e8 : wrap64 (8 * (j : Int)) = ((8 * j : Nat) : Int) := by unfold wrap64; omega
      rw [if_pos (by omega), if_pos (by omega), if_pos (by omega), e8, if_pos (by omega), or32 (j : Int) x (rd t (j : Int)) h0 (rd_byte hb _) (8 * j) (by omega) (by omega) (by omega) h1,
        show wrap64 ((j : Int) + 1) = ((j + 1 : Nat) : Int) from by unfold wrap64; omega]
    have b0 := rd_byte hb (0 : Nat)
    have b1 := rd_byte hb (1 : Nat)
    have b2 := rd_byte hb (2 : Nat)
    have b3 := rd_byte hb (3 : Nat)
    unfold isByte at b0 b1 b2 b3
    refine one 0 0 _ (by omega) (by decide) (by omega) (one _ 1 _ (by omega) (by omega) (by omega) (one _ 2 _ (by omega) (by omega) (by omega) (one _ 3 _ (by omega) (by omega) (by omega) ?_)))
    refine Ev.step (f := fun k => (sum_Of.f k a).bind fun t148 => (if (0 + rd t ((0 : Nat) : Int) * 2 ^ (8 * 0) + rd t ((1 : Nat) : Int) * 2 ^ (8 * 1) + rd t ((2 : Nat) : Int) * 2 ^ (8 * 2) + rd t ((3 : Nat) : Int) * 2 ^ (8 * 3)) = t148 then (if ([] : List Int).length + a.length < 140737488355328 then (some ((([] : List Int) ++ a), true)) else (none)) else (some (([] : List Int), false)))) (fun k => by simp only [sum_Open.l0]; rw [if_neg (by omega)]) ?_
    refine Ev.bind (of_ev a (by omega)) ?_
    have ele : (0 + rd t ((0 : Nat) : Int) * 2 ^ (8 * 0) + rd t ((1 : Nat) : Int) * 2 ^ (8 * 1) + rd t ((2 : Nat) : Int) * 2 ^ (8 * 2) + rd t ((3 : Nat) : Int) * 2 ^ (8 * 3)) = le4 t := by
      show _ = rd t ((0 : Nat) : Int) + 256 * rd t ((1 : Nat) : Int) + 65536 * rd t ((2 : Nat) : Int) + 16777216 * rd t ((3 : Nat) : Int)
      omega
    rw [ele]
    by_cases c2 : le4 t = sm a
    · exact ev_pos c2 (ev_pos (by simp; omega) (ev_now (by rw [if_pos c2]; simp)))
    · exact ev_neg c2 (ev_now (by rw [if_neg c2]))
theorem le4_tail4 (s : Int) (h0 : 0 ≤ s) (h1 : s < 4294967296) : le4 (tail4 s) = s := by
  show s % 256 + 256 * (s / 256 % 256) + 65536 * (s / 65536 % 256) + 16777216 * (s / 16777216 % 256) = s
  omega
theorem tail4_le4 (t : List Int) (hb : ∀ x ∈ t, isByte x) (ht : t.length = 4) : tail4 (le4 t) = t := by
  match t, ht with
  | [a, b, c, d], _ =>
    have ha := hb a (by simp)
    have hb' := hb b (by simp)
    have hc := hb c (by simp)
    have hd := hb d (by simp)
    unfold isByte at ha hb' hc hd
    show [(a + 256 * b + 65536 * c + 16777216 * d) % 256, (a + 256 * b + 65536 * c + 16777216 * d) / 256 % 256, (a + 256 * b + 65536 * c + 16777216 * d) / 65536 % 256, (a + 256 * b + 65536 * c + 16777216 * d) / 16777216 % 256] = [a, b, c, d]
    rw [show (a + 256 * b + 65536 * c + 16777216 * d) % 256 = a from by omega, show (a + 256 * b + 65536 * c + 16777216 * d) / 256 % 256 = b from by omega, show (a + 256 * b + 65536 * c + 16777216 * d) / 65536 % 256 = c from by omega, show (a + 256 * b + 65536 * c + 16777216 * d) / 16777216 % 256 = d from by omega]
theorem tail4_len (s : Int) : (tail4 s).length = 4 := rfl
theorem seal_len (l : List Int) : (sealL l).length = l.length + 4 := by unfold sealL; rw [List.length_append, tail4_len]
theorem seal_take (l : List Int) : (sealL l).take ((sealL l).length - 4) = l := by rw [seal_len, Nat.add_sub_cancel]; unfold sealL; simp
theorem seal_drop (l : List Int) : (sealL l).drop ((sealL l).length - 4) = tail4 (sm l) := by rw [seal_len, Nat.add_sub_cancel]; unfold sealL; simp
theorem tail4_bytes (s : Int) : ∀ x ∈ tail4 s, isByte x := by
  intro x hx
  simp only [tail4, List.mem_cons, List.not_mem_nil, or_false] at hx
  unfold isByte
  omega
theorem seal_bytes (l : List Int) (hl : ∀ x ∈ l, isByte x) : ∀ x ∈ sealL l, isByte x := by
  intro x hx
  rcases List.mem_append.1 hx with h | h
  · exact hl x h
  · exact tail4_bytes _ x h
theorem open_seal (l : List Int) : openL (sealL l) = (l, true) := by
  have hr := sm_range l
  unfold openL
  rw [if_neg (by rw [seal_len]; omega), seal_drop, seal_take, le4_tail4 _ hr.1 hr.2, if_pos rfl]
theorem byte_of_wf {l : List Int} (h : ∀ x ∈ l, (Lit.int .u8 x).wf = true) : ∀ x ∈ l, isByte x := by
  intro x hx
  have := h x hx
  have hmin : IntKind.u8.min = 0 := rfl
  have hmax : IntKind.u8.max = 255 := rfl
  simp only [Lit.wf, Bool.and_eq_true, decide_eq_true_eq] at this
  unfold isByte
  omega
end Go.Proofs.Ytipclnniaenciaa.Spec
