/- The plain statements of chapter 1: lengths. -/
import Derived.Test.YtikfdngidbppbaaDoorAddrLaws
namespace Go.Proofs.YtikfdngidbppbaaDoor.Addr
open Go.RowKit Go.Proofs.YtikfdngidbppbaaDoor.PB Go.Proofs.YtikfdngidbppbaaDoorW.PrintWords Go.Proofs.YtikfdngidbppbaaDoorW.PrintLast Go.Proofs.YtikfdngidbppbaaDoorW.PrintMore
set_option linter.unusedVariables false

def blk : List UInt8 := [46, 120, 49, 50, 51, 52, 53, 54, 55, 56, 57, 48, 49, 50, 51, 52, 53, 54, 55, 56, 57, 48, 49, 50, 51, 52, 53, 54, 55, 56, 57, 48, 49, 50, 51, 52, 53, 54, 55, 56, 57, 48, 49, 50, 51, 52, 53, 54, 55, 56]
def blks (m : Nat) : List UInt8 := (List.replicate m blk).flatten
theorem blks_succ (m : Nat) : blks (m + 1) = blks m ++ blk := by unfold blks; rw [List.replicate_succ', List.flatten_append]; simp
theorem blks_len (m : Nat) : (blks m).length = 50 * m := by
  induction m with
  | zero => rfl
  | succ m ih => rw [blks_succ, List.length_append, ih]; show 50 * m + 50 = _; omega
def aas (n : Nat) : List UInt8 := List.replicate n 97
theorem aas_len (n : Nat) : (aas n).length = n := by unfold aas; simp
theorem upto {p : Nat → Bool} {B : Nat} (h : (List.range B).all p = true) (n : Nat) (hn : n < B) : p n = true := List.all_eq_true.1 h n (List.mem_range.2 hn)
theorem aas_local (n : Nat) (h : n < 71) (h1 : 1 ≤ n) : localL (aas n) = decide (n ≤ 64) := by
  have := upto (p := fun n => n == 0 || localL (aas n) == decide (n ≤ 64)) (B := 71) (by decide +kernel) n h
  rw [Bool.or_eq_true, beq_iff_eq, beq_iff_eq] at this
  exact this.resolve_left (by omega)
theorem aas_domain (n : Nat) (h : n < 71) (h1 : 1 ≤ n) : domainL (aas n) = decide (n ≤ 63) := by
  have := upto (p := fun n => n == 0 || domainL (aas n) == decide (n ≤ 63)) (B := 71) (by decide +kernel) n h
  rw [Bool.or_eq_true, beq_iff_eq, beq_iff_eq] at this
  exact this.resolve_left (by omega)
theorem aas_dot (n : Nat) (h : n < 71) : localL (aas n ++ [46]) = false ∧ localL ([46] ++ aas n) = false := by
  have := upto (p := fun n => !localL (aas n ++ [46]) && !localL ([46] ++ aas n)) (B := 71) (by decide +kernel) n h
  simpa using this
theorem blks_domain (m : Nat) (h : m < 7) (h1 : 1 ≤ m) : domainL ((blks m).drop 1) = decide (50 * m - 1 ≤ 255) ∧ domainL (blks m) = false := by
  have := upto (p := fun m => m == 0 || (domainL ((blks m).drop 1) == decide (50 * m - 1 ≤ 255) && !domainL (blks m))) (B := 7) (by decide +kernel) m h
  rw [Bool.or_eq_true, beq_iff_eq, Bool.and_eq_true, beq_iff_eq, Bool.not_eq_true'] at this
  exact this.resolve_left (by omega)
structure T1 (x : Int) (q : Int) (n : Nat) : Prop where
  out : wrap64 ((wrap64 (Int.tmod x q)) + 1) = (n : Int)
theorem num_of_wf {k : IntKind} {x : Int} (h : (Lit.int k x).wf = true) : k.min ≤ x ∧ x ≤ k.max := by
  simpa only [Lit.wf, Bool.and_eq_true, decide_eq_true_eq] using h
theorem len_two (x1 : Int) (n m : Nat) (hn : n < 71) (hn1 : 1 ≤ n) (hm : m < 7) (hm1 : 1 ≤ m) (HM : T1 x1 6 m) : ∀ (d i : Nat), m - i = d → i ≤ m → Ev (fun k => estafettelaw01_AddrLengths.l1 k x1 (mk (aas n)) (mk (blks i)) (i : Int)) true := by
  intro d
  induction d with
  | zero =>
    intro i hd hi
    obtain rfl : i = m := by omega
    have hb := blks_len i
    have ha := aas_len n
    obtain ⟨d1, d2⟩ := blks_domain i hm hm1
    obtain ⟨l1, l2⟩ := aas_dot n hn
    have f1 : Hand.addr_Local.f (mk (aas n)) = some (decide (n ≤ 64)) := by unfold Hand.addr_Local.f; rw [list_mk, aas_local n hn hn1]
    have f2 : Hand.addr_Domain.f (mk (aas n)) = some (decide (n ≤ 63)) := by unfold Hand.addr_Domain.f; rw [list_mk, aas_domain n hn hn1]
    have x2 : (mk (blks i)).extract 1 (mk (blks i)).size = mk ((blks i).drop 1) := by
      rw [extract_mk, List.take_of_length_le]
      rw [mk_size, List.length_drop]
      exact Nat.le_refl _
    have f3 : Hand.addr_Domain.f (mk ((blks i).drop 1)) = some (decide (50 * i - 1 ≤ 255)) := by unfold Hand.addr_Domain.f; rw [list_mk, d1]
    have f4 : Hand.addr_Domain.f (mk (blks i)) = some false := by unfold Hand.addr_Domain.f; rw [list_mk, d2]
    have j1 : mk (aas n) ++ (⟨#[46]⟩ : ByteArray) = mk (aas n ++ [46]) := by rw [show (⟨#[46]⟩ : ByteArray) = mk [46] from rfl, mk_app]
    have j2 : (⟨#[46]⟩ : ByteArray) ++ mk (aas n) = mk ([46] ++ aas n) := by rw [show (⟨#[46]⟩ : ByteArray) = mk [46] from rfl, mk_app]
    have f5 : Hand.addr_Local.f (mk (aas n ++ [46])) = some false := by unfold Hand.addr_Local.f; rw [list_mk, l1]
    have f6 : Hand.addr_Local.f (mk ([46] ++ aas n)) = some false := by unfold Hand.addr_Local.f; rw [list_mk, l2]
    have e3 := w_pred (50 * i) (by omega) (by omega)
    refine Ev.step (fun k => by simp only [estafettelaw01_AddrLengths.l1]; rw [HM.out, if_neg (by omega)]) (Ev.bind answers_ev (ev_pos rfl ?_))
    rw [f1, f2, x2, f3, f4, j1, j2, f5, f6, mk_size, mk_size, ha, hb, e3.out]
    have q : ∀ (b c : Bool), b = c → (b == c) = true := by
      intro b c h
      rw [h]
      simp
    refine ev_some (ev_pos (q _ _ (by rw [decide_eq_decide]; omega)) ?_)
    refine ev_some (ev_pos (q _ _ (by rw [decide_eq_decide]; omega)) ?_)
    refine ev_pos (by omega) (ev_some (ev_pos (q _ _ (by rw [decide_eq_decide]; omega)) ?_))
    refine ev_some (ev_neg Bool.false_ne_true (ev_pos (by omega) ?_))
    refine ev_some (ev_neg Bool.false_ne_true (ev_pos (by omega) ?_))
    exact ev_some (ev_now rfl)
  | succ d ih =>
    intro i hd hi
    have e2 := w_succ i (by omega)
    have hb := blks_len i
    have hj : (mk (blks i) ++ (⟨#[46]⟩ : ByteArray)) ++ (⟨#[120, 49, 50, 51, 52, 53, 54, 55, 56, 57, 48, 49, 50, 51, 52, 53, 54, 55, 56, 57, 48, 49, 50, 51, 52, 53, 54, 55, 56, 57, 48, 49, 50, 51, 52, 53, 54, 55, 56, 57, 48, 49, 50, 51, 52, 53, 54, 55, 56]⟩ : ByteArray) = mk (blks (i + 1)) := by
      rw [show (⟨#[46]⟩ : ByteArray) = mk [46] from rfl, show (⟨#[120, 49, 50, 51, 52, 53, 54, 55, 56, 57, 48, 49, 50, 51, 52, 53, 54, 55, 56, 57, 48, 49, 50, 51, 52, 53, 54, 55, 56, 57, 48, 49, 50, 51, 52, 53, 54, 55, 56, 57, 48, 49, 50, 51, 52, 53, 54, 55, 56]⟩ : ByteArray) = mk (blk.drop 1) from rfl, mk_app, mk_app, blks_succ, List.append_assoc]
      rfl
    refine Ev.step (fun k => ?_) (ih (i + 1) (by omega) (by omega))
    simp only [estafettelaw01_AddrLengths.l1]
    rw [HM.out, if_pos (by omega), if_pos (by rw [mk_size]; omega), if_pos (by rw [show (⟨#[46]⟩ : ByteArray) = mk [46] from rfl, mk_app, mk_size, List.length_append, List.length_singleton]; omega), hj, e2.out]
theorem len_one (x0 x1 : Int) (n m : Nat) (hn : n < 71) (hn1 : 1 ≤ n) (hm : m < 7) (hm1 : 1 ≤ m) (HN : T1 x0 70 n) (HM : T1 x1 6 m) : ∀ (d i : Nat), n - i = d → i ≤ n → Ev (fun k => estafettelaw01_AddrLengths.l0 k x0 x1 (mk (aas i)) (mk []) (i : Int)) true := by
  intro d
  induction d with
  | zero =>
    intro i hd hi
    obtain rfl : i = n := by omega
    refine Ev.step (fun k => ?_) (len_two x1 i m hn hn1 hm hm1 HM m 0 rfl (Nat.zero_le _))
    simp only [estafettelaw01_AddrLengths.l0]
    rw [HN.out, if_neg (by omega)]
    rfl
  | succ d ih =>
    intro i hd hi
    have e2 := w_succ i (by omega)
    have ha := aas_len i
    have hj : mk (aas i) ++ (⟨#[97]⟩ : ByteArray) = mk (aas (i + 1)) := by
      rw [show (⟨#[97]⟩ : ByteArray) = mk [97] from rfl, mk_app]
      unfold aas
      rw [List.replicate_succ']
    refine Ev.step (fun k => ?_) (ih (i + 1) (by omega) (by omega))
    simp only [estafettelaw01_AddrLengths.l0]
    rw [HN.out, if_pos (by omega), if_pos (by rw [mk_size]; omega), hj, e2.out]
theorem AddrLengths : estafettelaw01_AddrLengths.Pure := by
  intro a0 a1 w0 w1
  have h0 : 0 ≤ a0 ∧ a0 ≤ 255 := num_of_wf w0
  have h1 : 0 ≤ a1 ∧ a1 ≤ 255 := num_of_wf w1
  refine Ev.rounds ?_
  unfold estafettelaw01_AddrLengths.f
  obtain ⟨n, hn, hn1, hn2⟩ : ∃ n : Nat, T1 a0 70 n ∧ 1 ≤ n ∧ n < 71 := by
    refine ⟨(a0 % 70 + 1).toNat, ⟨?_⟩, by omega, by omega⟩
    rw [Int.tmod_eq_emod_of_nonneg h0.1]
    unfold wrap64
    omega
  obtain ⟨m, hm, hm1, hm2⟩ : ∃ m : Nat, T1 a1 6 m ∧ 1 ≤ m ∧ m < 7 := by
    refine ⟨(a1 % 6 + 1).toNat, ⟨?_⟩, by omega, by omega⟩
    rw [Int.tmod_eq_emod_of_nonneg h1.1]
    unfold wrap64
    omega
  exact len_one a0 a1 n m hn2 hn1 hm2 hm1 hn hm n 0 rfl (Nat.zero_le _)
end Go.Proofs.YtikfdngidbppbaaDoor.Addr
