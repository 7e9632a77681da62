/- bin.reader over memory: numbers and texts out of bytes. -/
import Derived.Test.YtljhfaneepehcaaDoorAddrEv
import Derived.Test.YtljhfaneepehcaaDoorWMore
import Derived.Test.YtljhfaneepehcaaDoorWLast
import Derived.Test.YtljhfaneepehcaaDoorWKept
import Derived.WalkKit
import Derived.ProofKit
import Derived.Laws.BitsAllLaws
namespace Go.Proofs.YtljhfaneepehcaaDoor.Hand
open Go.RowKit Go.Proofs.YtljhfaneepehcaaDoorW.PrintWords Go.Proofs.YtljhfaneepehcaaDoorW.PrintLast Go.Proofs.YtljhfaneepehcaaDoorW.PrintMore Go.Proofs.YtljhfaneepehcaaDoor.Addr
set_option linter.unusedVariables false
set_option linter.unusedSimpArgs false
/-- So many bytes off the front; or what is bad. -/
def takeS (n : Nat) (st : List Int × Bool) : List Int × (List Int × Bool) := if st.2 = true ∨ st.1.length < n then ([], (st.1, true)) else (st.1.take n, (st.1.drop n, false))
def valB (l : List Int) : Int := l.foldl (fun n c => n * 256 + c) 0
def numS (size : Nat) (st : List Int × Bool) : Int × (List Int × Bool) := (valB (takeS size st).1, (takeS size st).2)
def textS (st : List Int × Bool) : ByteArray × (List Int × Bool) := (strOfNums (takeS (numS 2 st).1.toNat (numS 2 st).2).1, (takeS (numS 2 st).1.toNat (numS 2 st).2).2)
def Bytes (l : List Int) : Prop := ∀ x ∈ l, 0 ≤ x ∧ x < 256
structure Rd (w0 W : World) (p : Nat) (A : Option Addr) (c : Nat) (st : List Int × Bool) : Prop where
  pos : w0.heap.size ≤ p
  cell : W.heap[p]? = some (.cells #[.slice A st.1.length c, .bool st.2] 49 (0, 0))
  row : Kd.C (Kd.int .u8) w0 A st.1.length st.1
  cap : st.1.length ≤ c
  low : Below w0.heap.size w0 W
  oct : Bytes st.1
theorem kept_set {w W : World} {p j : Nat} {v : Value} (h : Kept w W (fun k => k = p)) : Kept w (W.setCell ⟨p, j, none⟩ v) (fun k => k = p) :=
  ⟨by rw [show (W.setCell ⟨p, j, none⟩ v).heap.size = W.heap.size from Array.size_modify ..]; exact h.1, fun i hi hn => (Below.heap_setCell W ⟨p, j, none⟩ v i hn).trans (h.2 i hi hn)⟩
theorem Rd.bad {w0 W : World} {p : Nat} {A : Option Addr} {c : Nat} {bs : List Int} {b : Bool} (h : Rd w0 W p A c (bs, b)) : Rd w0 (W.setCell ⟨p, 1, none⟩ (.bool true)) p A c (bs, true) :=
  ⟨h.pos, blk_put (cs := #[.slice A bs.length c, .bool b]) h.cell 1 _ rfl, h.row, h.cap, h.low.setCell (p := ⟨p, 1, none⟩) h.pos _, h.oct⟩
theorem Rd.drop {w0 W : World} {p : Nat} {A : Option Addr} {c n : Nat} {bs : List Int} (h : Rd w0 W p A c (bs, false)) (hn : n ≤ bs.length) : Rd w0 (W.setCell ⟨p, 0, none⟩ (.slice (if c = n then A else A.map (·.add n)) (bs.length - n) (c - n))) p (if c = n then A else A.map (·.add n)) (c - n) (bs.drop n, false) := by
  have hl : (bs.drop n).length = bs.length - n := List.length_drop
  have hC := Kd.C_drop (m := n) h.row hn h.cap
  rw [show n * (Kd.int .u8).sz = n from Nat.mul_one n] at hC
  refine ⟨h.pos, ?_, hC, by show (bs.drop n).length ≤ c - n; rw [hl]; have := h.cap; dsimp only at this; omega, h.low.setCell (p := ⟨p, 0, none⟩) h.pos _, fun x hx => h.oct x (List.mem_of_mem_drop hx)⟩
  have := blk_put (cs := #[.slice A bs.length c, .bool false]) h.cell 0 (.slice (if c = n then A else A.map (·.add n)) (bs.length - n) (c - n)) rfl
  rw [show ((bs.drop n, false) : List Int × Bool).1.length = bs.length - n from hl]
  exact this
def TakeOk (w0 W : World) (p n : Nat) (st : List Int × Bool) (e : Ending) (w' : World) : Prop :=
  ∃ A1 c1 A2 c2, e = .returned (.slice A1 (takeS n st).1.length c1) ∧ (takeS n st).1.length ≤ c1 ∧ Kd.C (Kd.int .u8) w0 A1 (takeS n st).1.length (takeS n st).1 ∧ Rd w0 w' p A2 c2 (takeS n st).2 ∧ Kept W w' (fun k => k = p)
set_option maxHeartbeats 8000000 in
theorem take_calls (n : Nat) (hn : n < 1000000000000) (w0 W : World) (p : Nat) (A : Option Addr) (c : Nat) (st : List Int × Bool) (hR : Rd w0 W p A c st) :
    Calls Tryd.prog 39 #[.pointer (some ⟨p, 0, none⟩), .int .i64 n] W (TakeOk w0 W p n st) := by
  obtain ⟨bs, bad⟩ := st
  have hc0 := (blk_cell hR.cell 0).trans rfl
  have hc1 := (blk_cell hR.cell 1).trans rfl
  have hf0 := blk_frozen hR.cell 0
  have hf1 := blk_frozen hR.cell 1
  have HR := Aside0.mk hR
  clear hR
  have tk0 : bad = true ∨ bs.length < n → takeS n (bs, bad) = ([], (bs, true)) := fun h => if_pos h
  cases bad with
  | true =>
    go_enter Tryd.func39, Tryd.ntmps39
    go_wp2
    refine bodyPost_ret (results_tmp rfl _ _ _) rfl ?_
    unfold TakeOk
    rw [tk0 (.inl (by trivial))]
    exact ⟨none, 0, A, c, rfl, Nat.le_refl _, Kd.C_nil _ _, HR.out.bad, kept_set (Kept.refl _ _)⟩
  | false =>
    by_cases hlt : bs.length < n
    · have hlt' : decide ((bs.length : Int) < (n : Int)) = true := decide_eq_true (by omega)
      go_enter Tryd.func39, Tryd.ntmps39
      go_wp2
      refine bodyPost_ret (results_tmp rfl _ _ _) rfl ?_
      unfold TakeOk
      rw [tk0 (.inr hlt)]
      exact ⟨none, 0, A, c, rfl, Nat.le_refl _, Kd.C_nil _ _, HR.out.bad, kept_set (Kept.refl _ _)⟩
    · have hlt' : decide ((bs.length : Int) < (n : Int)) = false := decide_eq_false (by omega)
      have tk1 : takeS n (bs, false) = (bs.take n, (bs.drop n, false)) := if_neg (by rintro (h | h); cases h; exact hlt h)
      have hle : n ≤ bs.length := by omega
      have hcap : bs.length ≤ c := HR.out.cap
      have hnc : n ≤ c := Nat.le_trans hle hcap
      have hl : (bs.take n).length = n := by rw [List.length_take]; omega
      have HL := Aside0.mk hl
      have HCT := Aside0.mk (Kd.C_take (m := n) HR.out.row hle)
      have HD := Aside0.mk (HR.out.drop hle)
      have HK := Aside0.mk (kept_set (j := 0) (v := .slice (if c = n then A else A.map (·.add n)) (bs.length - n) (c - n)) (Kept.refl W (fun k => k = p)))
      have HTK := Aside0.mk tk1
      clear tk1 tk0 hl
      by_cases hcn : c = n
      · rw [if_pos hcn] at HD HK
        subst hcn
        go_enter Tryd.func39, Tryd.ntmps39
        go_wp2
        refine bodyPost_ret (results_tmp rfl _ _ _) rfl ?_
        have e1 : bs.length - c = 0 := by omega
        rw [e1, Nat.sub_self] at HD HK
        unfold TakeOk
        rw [HTK.out]
        exact ⟨A, c, _, _, by rw [show (bs.take c, bs.drop c, false).1.length = c from HL.out]; rfl, Nat.le_of_eq HL.out, HCT.out, HD.out, HK.out⟩
      · rw [if_neg hcn] at HD HK
        go_enter Tryd.func39, Tryd.ntmps39
        go_wp2
        refine bodyPost_ret (results_tmp rfl _ _ _) rfl ?_
        unfold TakeOk
        rw [HTK.out]
        exact ⟨A, n, _, _, by rw [show (bs.take n, bs.drop n, false).1.length = n from HL.out]; rfl, Nat.le_of_eq HL.out, HCT.out, HD.out, HK.out⟩
theorem takeS_oct {n : Nat} {st : List Int × Bool} (h : Bytes st.1) : Bytes (takeS n st).1 := by
  unfold takeS
  split
  · exact fun x hx => by cases hx
  · exact fun x hx => h x (List.mem_of_mem_take hx)
theorem takeS_len (n : Nat) (st : List Int × Bool) : (takeS n st).1.length ≤ n ∧ (takeS n st).1.length ≤ st.1.length := by
  unfold takeS
  split
  · exact ⟨Nat.zero_le _, Nat.zero_le _⟩
  · rw [List.length_take]; omega
theorem valB_snoc (l : List Int) (x : Int) : valB (l ++ [x]) = valB l * 256 + x := by unfold valB; rw [List.foldl_append]; rfl
theorem valB_bound_rev (m : List Int) (h : Bytes m.reverse) : 0 ≤ valB m.reverse ∧ valB m.reverse < 256 ^ m.length := by
  induction m with
  | nil => exact ⟨by decide, by decide⟩
  | cons x m ih =>
    rw [List.reverse_cons] at h ⊢
    rw [valB_snoc, List.length_cons, Int.pow_succ]
    obtain ⟨h1, h2⟩ := ih (fun y hy => h y (List.mem_append_left _ hy))
    obtain ⟨h3, h4⟩ := h x (List.mem_append_right _ List.mem_cons_self)
    generalize (256 : Int) ^ m.length = q at *
    generalize valB m.reverse = v at *
    omega
theorem valB_bound (l : List Int) (h : Bytes l) : 0 ≤ valB l ∧ valB l < 256 ^ l.length := by
  have := valB_bound_rev l.reverse (by rw [List.reverse_reverse]; exact h)
  rw [List.reverse_reverse, List.length_reverse] at this
  exact this
theorem i64_or_nat (a b : Nat) (ha : a < 4611686018427387904) (hb : b < 4611686018427387904) : bits .or .i64 (a : Int) (b : Int) = ((a ||| b : Nat) : Int) := by
  have hx : a ||| b < 2 ^ 62 := Nat.or_lt_two_pow (by omega) (by omega)
  show IntKind.i64.wrap ((BitVec.ofInt 64 (a : Int) ||| BitVec.ofInt 64 (b : Int)).toNat : Int) = _
  rw [BitVec.toNat_or, ofInt_u64 a (by omega), ofInt_u64 b (by omega), i64_w, Go.IntWalk.wrap64_in _ (by omega)]
theorem or_add (v y : Int) (h0 : 0 ≤ v) (h1 : v < 1000000000000000) (h2 : 0 ≤ y) (h3 : y < 256) : bits .or .i64 (wrap64 (v * 256)) (wrap64 y) = v * 256 + y := by
  obtain ⟨a, rfl⟩ := Int.eq_ofNat_of_zero_le h0
  obtain ⟨b, rfl⟩ := Int.eq_ofNat_of_zero_le h2
  rw [Go.IntWalk.wrap64_in _ (by omega), Go.IntWalk.wrap64_in _ (by omega), show ((a : Int) * 256) = ((2 ^ 8 * a : Nat) : Int) by omega, i64_or_nat _ _ (by omega) (by omega), ← Nat.two_pow_add_eq_or_of_lt (by omega)]
  omega
def NumOk (w0 W : World) (p size : Nat) (st : List Int × Bool) (e : Ending) (w' : World) : Prop :=
  ∃ A2 c2, e = .returned (.int .i64 (numS size st).1) ∧ Rd w0 w' p A2 c2 (numS size st).2 ∧ Kept W w' (fun k => k = p)
set_option maxHeartbeats 8000000 in
theorem rnum_calls (size : Nat) (hn : size ≤ 6) (w0 W : World) (p : Nat) (A : Option Addr) (c : Nat) (st : List Int × Bool) (hR : Rd w0 W p A c st) :
    Calls Tryd.prog 19 #[.pointer (some ⟨p, 0, none⟩), .int .i64 size] W (NumOk w0 W p size st) := by
  have HT := Aside0.mk (take_calls size (by omega) w0 W p A c st hR)
  have HOC := Aside0.mk (takeS_oct (n := size) hR.oct)
  have HLN := Aside0.mk (takeS_len size st)
  clear hR
  go_enter Tryd.func19, Tryd.ntmps19
  go_wp2_with fail
  refine HT.out.mono ?_
  rintro e w1 ⟨A1, c1, A2, c2, rfl, hcc, hC, hR1, hK1⟩
  obtain ⟨l, hl⟩ : ∃ l, l = (takeS size st).1 := ⟨_, rfl⟩
  rw [← hl] at hcc hC HOC HLN
  rw [← hl]
  have hl6 : l.length ≤ 6 := Nat.le_trans HLN.out.1 hn
  have HC := Aside0.mk hC
  have HR1 := Aside0.mk hR1
  have HK1 := Aside0.mk hK1
  have HL := Aside0.mk hl
  clear hC hR1 hK1 hl HT
  go_wp2_with fail
  go_loopw [5, 12] (fun v5 v12 wr => ∃ k : Nat, v12 = .int .i64 k ∧ v5 = .int .i64 (valB (l.take k)) ∧ k ≤ l.length ∧ wr = w1) (fun v5 v12 _ => l.length - (intOf v12).toNat)
  case atStart => exact ⟨0, rfl, rfl, Nat.zero_le _, rfl⟩
  case round =>
    obtain ⟨k, rfl, rfl, hk, rfl⟩ := hrel
    by_cases hlt : k < l.length
    · obtain ⟨ad, rfl, hx⟩ := Kd.at_int HC.out (k : Int) (by omega) (by omega)
      rw [Int.toNat_natCast] at hx
      have hxr := pw_cell_below HR1.out.low hx
      have hrd : rd l (k : Int) = l[k] := by unfold rd; simp [List.getD_eq_getElem?_getD, hlt]
      rw [hrd] at hxr
      obtain ⟨v, hv⟩ : ∃ v, v = valB (l.take k) := ⟨_, rfl⟩
      have hvb := valB_bound (l.take k) (fun x hx => HOC.out x (List.mem_of_mem_take hx))
      rw [← hv] at hvb ⊢
      have hyb := HOC.out l[k] (List.getElem_mem hlt)
      obtain ⟨y, hy⟩ : ∃ y, y = l[k] := ⟨_, rfl⟩
      rw [← hy] at hxr hyb
      have HV := Aside0.mk hv
      have HY := Aside0.mk hy
      have HVB := Aside0.mk hvb
      have HYB := Aside0.mk hyb
      clear hx hrd hv hy hvb hyb
      go_wp2
      go_roundw
      case rel =>
        have h6 : (256 : Int) ^ (l.take k).length ≤ 281474976710656 := by
          have : (l.take k).length ≤ 6 := by rw [List.length_take]; have := HLN.out.1; omega
          have hm : (l.take k).length = 0 ∨ (l.take k).length = 1 ∨ (l.take k).length = 2 ∨ (l.take k).length = 3 ∨ (l.take k).length = 4 ∨ (l.take k).length = 5 ∨ (l.take k).length = 6 := by omega
          rcases hm with h | h | h | h | h | h | h <;> rw [h] <;> decide
        refine ⟨k + 1, by go_num, ?_, by omega, by trivial⟩
        rw [or_add v y HVB.out.1 (by have := HVB.out.2; omega) HYB.out.1 HYB.out.2, List.take_succ_eq_append_getElem hlt, valB_snoc, ← HV.out, ← HY.out]
      case measure => simp [intOf]; omega
    · obtain rfl : k = l.length := by omega
      go_wp2
      refine bodyPost_ret (results_tmp rfl _ _ _) rfl ?_
      rw [List.take_length, HL.out]
      exact ⟨A2, c2, rfl, HR1.out, HK1.out⟩
theorem numS_bound (size : Nat) (st : List Int × Bool) (h : Bytes st.1) (hs : size ≤ 6) : 0 ≤ (numS size st).1 ∧ (numS size st).1 < 256 ^ size := by
  have h1 := valB_bound _ (takeS_oct (n := size) h)
  have h2 := (takeS_len size st).1
  refine ⟨h1.1, Int.lt_of_lt_of_le h1.2 ?_⟩
  generalize (takeS size st).1.length = m at h2
  have hm : size = 0 ∨ size = 1 ∨ size = 2 ∨ size = 3 ∨ size = 4 ∨ size = 5 ∨ size = 6 := by omega
  have hn : m = 0 ∨ m = 1 ∨ m = 2 ∨ m = 3 ∨ m = 4 ∨ m = 5 ∨ m = 6 := by omega
  rcases hm with rfl | rfl | rfl | rfl | rfl | rfl | rfl <;> rcases hn with rfl | rfl | rfl | rfl | rfl | rfl | rfl <;> first | decide | omega
def TextOk (w0 W : World) (p : Nat) (st : List Int × Bool) (e : Ending) (w' : World) : Prop :=
  ∃ A2 c2, e = .returned (.string (textS st).1) ∧ Rd w0 w' p A2 c2 (textS st).2 ∧ Kept W w' (fun k => k = p)
set_option maxHeartbeats 8000000 in
theorem rtext_calls (w0 W : World) (p : Nat) (A : Option Addr) (c : Nat) (st : List Int × Bool) (hR : Rd w0 W p A c st) :
    Calls Tryd.prog 20 #[.pointer (some ⟨p, 0, none⟩)] W (TextOk w0 W p st) := by
  have HN := Aside0.mk (rnum_calls 2 (by omega) w0 W p A c st hR)
  have HNB := Aside0.mk (numS_bound 2 st hR.oct (by omega))
  clear hR
  go_enter Tryd.func20, Tryd.ntmps20
  go_wp2_with fail
  refine HN.out.mono ?_
  rintro e w1 ⟨A1, c1, rfl, hR1, hK1⟩
  obtain ⟨q, hq⟩ : ∃ q : Nat, (numS 2 st).1 = (q : Int) := ⟨(numS 2 st).1.toNat, by have := HNB.out.1; omega⟩
  have hqb : q < 65536 := by have := HNB.out.2; rw [hq] at this; have h2 : ((256 : Int) ^ 2) = 65536 := by decide
                             omega
  have HT := Aside0.mk (take_calls q (by omega) w0 w1 p A1 c1 (numS 2 st).2 hR1)
  have HQ := Aside0.mk hq
  have HK1 := Aside0.mk hK1
  rw [hq]
  clear hR1 hK1 HN hq
  go_wp2_with fail
  refine HT.out.mono ?_
  rintro e w2 ⟨A2, c2, A3, c3, rfl, hcc, hC, hR2, hK2⟩
  have hcv := Kd.C_string (P := Tryd.prog) (src := 28) (dst := 9) (c := c2) Tryd.underlying28 Tryd.underlying5 Tryd.underlying9 (Kd.C_below hC hR2.low)
  have HR2 := Aside0.mk hR2
  have HK2 := Aside0.mk (hK2)
  clear hR2 hK2 hC
  go_wp2
  refine bodyPost_ret (results_tmp rfl _ _ _) rfl ?_
  have hts : textS st = (strOfNums (takeS q (numS 2 st).2).1, (takeS q (numS 2 st).2).2) := by
    unfold textS
    rw [HQ.out, Int.toNat_natCast]
  unfold TextOk
  rw [hts]
  exact ⟨A3, c3, rfl, HR2.out, Kept.then_ HK1.out HK2.out (fun k hk => .inl hk)⟩
end Go.Proofs.YtljhfaneepehcaaDoor.Hand
