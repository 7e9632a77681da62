/- Which messages may be: the program's env.Good and the document's Good say the same. -/
import Derived.Test.YtljhfaneepehcaaDoorBinBody
import Derived.Test.YtljhfaneepehcaaDoorEnvGood
namespace Go.Proofs.YtljhfaneepehcaaDoor.Addr
open Go.RowKit Go.Proofs.YtljhfaneepehcaaDoor.PB Go.Proofs.YtljhfaneepehcaaDoorW.PrintWords Go.Proofs.YtljhfaneepehcaaDoorW.PrintLast Go.Proofs.YtljhfaneepehcaaDoorW.PrintMore Go.Proofs.YtljhfaneepehcaaDoor.Hand
set_option linter.unusedVariables false
theorem Ev_succ {α : Type} {g : Nat → Option α} {r : α} (h : Ev (fun k => g (k + 1)) r) : Ev g r := Ev.step (f := fun k => g (k + 1)) (fun _ => rfl) h
theorem rd_int (l : List Int) (i : Nat) (h : i < l.length) : rd l (i : Int) = l[i] := by unfold rd; simp [List.getD_eq_getElem?_getD, h]
theorem rd_str (l : List ByteArray) (i : Nat) (h : i < l.length) : rdOf ByteArray.empty l (i : Int) = l[i] := by unfold rdOf; simp [List.getD_eq_getElem?_getD, h]
theorem toList_iff (a b : ByteArray) : a.toList = b.toList ↔ a = b := by
  rw [Lib.toList_data, Lib.toList_data]
  exact ⟨fun h => ByteArray.ext (Array.toList_inj.1 h), fun h => by rw [h]⟩
/-- A mailbox that is written as it is held. -/
def boxB (s : ByteArray) : Bool := match canonL s.data.toList with
  | some c => decide (mk c = s)
  | none => false
theorem env_box (s : ByteArray) (hs : s.size < 4611686018427387904) : env_mailbox.f s = some (boxB s) := by
  have h := canon_eq s.data.toList (by rw [size_list]; exact hs)
  rw [mk_list] at h
  unfold env_mailbox.f
  rw [h, Option.bind_some]
  unfold canonR boxB
  cases canonL s.data.toList with
  | none => rfl
  | some c =>
    show (if true = true then some ((mk c).toList == s.toList) else some false) = some (decide (mk c = s))
    rw [if_pos rfl]
    congr 1
    rw [Bool.eq_iff_iff, beq_iff_eq, decide_eq_true_iff, toList_iff]
theorem ref_box (s : ByteArray) (hs : s.size < 4611686018427387904) : Ev (fun k => estafetteref08_mailbox.f k s) (boxB s) := by
  have h := refCanon_ev s.data.toList (by rw [size_list]; exact hs)
  rw [mk_list] at h
  simp only [estafetteref08_mailbox.f]
  refine Ev.bind h ?_
  unfold canonR boxB
  cases canonL s.data.toList with
  | none => exact ev_neg (by decide) (ev_now rfl)
  | some c =>
    refine ev_pos rfl (ev_now ?_)
    rw [Bool.eq_iff_iff, beq_iff_eq, decide_eq_true_iff, toList_iff]
/-- What may be. -/
def timeB (n : Int) : Bool := decide (0 ≤ n) && decide (n ≤ 1099511627776)
def markB (n : Int) : Bool := decide (0 ≤ n) && decide (n ≤ 2)
def fromB (s : ByteArray) : Bool := decide (s.size = 0) || boxB s
def goodM (a0 a1 a2 a3 a4 : Int) (a5 : ByteArray) (l6 : List ByteArray) (l7 : List Int) (l8 : List ByteArray) : Bool :=
  [a0, a1, a2, a3, a4].all timeB && (fromB a5 && (decide (1 ≤ l6.length) && (decide (l6.length ≤ 20) && (decide (l7.length ≤ 50) && (Dots.goodB l8 && (l6.all boxB && l7.all markB))))))
theorem idx_late (l : List Int) : ∀ i, ∃ r, idxO lateP i l = some r ∧ decide (r ≥ 0) = !l.all timeB := by
  induction l with
  | nil => exact fun i => ⟨_, rfl, rfl⟩
  | cons x l ih =>
    intro i
    have hp : lateP x = some (!timeB x) := rfl
    rw [idxO, hp, Option.bind_some, List.all_cons]
    cases timeB x with
    | true => exact ih (i + 1)
    | false => exact ⟨_, rfl, by rw [decide_eq_true (by omega)]; rfl⟩
theorem idx_odd (l : List Int) : ∀ i, ∃ r, idxO oddP i l = some r ∧ decide (r ≥ 0) = !l.all markB := by
  induction l with
  | nil => exact fun i => ⟨_, rfl, rfl⟩
  | cons x l ih =>
    intro i
    have hp : oddP x = some (!markB x) := by
      unfold oddP markB
      congr 1
      rw [Bool.eq_iff_iff]
      simp
    rw [idxO, hp, Option.bind_some, List.all_cons]
    cases markB x with
    | true => exact ih (i + 1)
    | false => exact ⟨_, rfl, by rw [decide_eq_true (by omega)]; rfl⟩
theorem idx_stray (l : List ByteArray) (h : ∀ s ∈ l, s.size < 4611686018427387904) : ∀ i, ∃ r, idxO strayP i l = some r ∧ decide (r ≥ 0) = !l.all boxB := by
  induction l with
  | nil => exact fun i => ⟨_, rfl, rfl⟩
  | cons x l ih =>
    intro i
    have hp : strayP x = some (!boxB x) := by
      unfold strayP
      rw [env_box x (h x List.mem_cons_self)]
      rfl
    rw [idxO, hp, Option.bind_some, List.all_cons]
    cases boxB x with
    | true => exact ih (fun s hs => h s (List.mem_cons_of_mem _ hs)) (i + 1)
    | false => exact ⟨_, rfl, by rw [decide_eq_true (by omega)]; rfl⟩
theorem env_good_ev (a0 a1 a2 a3 a4 : Int) (a5 : ByteArray) (l6 : List ByteArray) (l7 : List Int) (l8 : List ByteArray) (h5 : a5.size < 4611686018427387904) (h6 : ∀ s ∈ l6, s.size < 4611686018427387904) (h8 : Dots.sizeL l8 < 4611686018427387904) :
    Ev (fun k => env_Good.f k a0 a1 a2 a3 a4 a5 l6 l7 l8) (goodM a0 a1 a2 a3 a4 a5 l6 l7 l8) := by
  obtain ⟨r0, e0, d0⟩ := idx_late [a0, a1, a2, a3, a4] 0
  obtain ⟨r1, e1, d1⟩ := idx_stray l6 h6 0
  obtain ⟨r2, e2, d2⟩ := idx_odd l7 0
  have hf : (if a5.size = 0 then some true else env_mailbox.f a5) = some (fromB a5) := by
    unfold fromB
    by_cases h : a5.size = 0
    · rw [if_pos h, decide_eq_true h]; rfl
    · rw [if_neg h, decide_eq_false h, env_box a5 h5]; rfl
  simp only [env_Good.f, e0, e1, e2, hf]
  unfold goodM
  refine ev_some ?_
  cases t0 : [a0, a1, a2, a3, a4].all timeB with
  | false =>
    rw [t0] at d0
    exact ev_pos (of_decide_eq_true d0) (ev_now rfl)
  | true =>
    rw [t0] at d0
    refine ev_neg (of_decide_eq_false d0) (ev_some ?_)
    rw [Bool.true_and]
    cases fromB a5 with
    | false => exact ev_neg (by decide) (ev_now rfl)
    | true =>
      refine ev_pos rfl ?_
      rw [Bool.true_and]
      by_cases c1 : l6.length ≥ 1
      case neg =>
        rw [decide_eq_false (by omega)]
        exact ev_neg c1 (ev_now rfl)
      rw [decide_eq_true (by omega), Bool.true_and]
      refine ev_pos c1 ?_
      by_cases c2 : l6.length ≤ 20
      case neg =>
        rw [decide_eq_false c2]
        exact ev_neg c2 (ev_now rfl)
      rw [decide_eq_true c2, Bool.true_and]
      refine ev_pos c2 (ev_some ?_)
      cases t1 : l6.all boxB with
      | false =>
        rw [t1] at d1
        exact ev_pos (of_decide_eq_true d1) (ev_now (by simp))
      | true =>
        rw [t1] at d1
        refine ev_neg (of_decide_eq_false d1) ?_
        by_cases c3 : l7.length ≤ 50
        case neg =>
          rw [decide_eq_false c3]
          exact ev_neg c3 (ev_now rfl)
        rw [decide_eq_true c3, Bool.true_and]
        refine ev_pos c3 (ev_some ?_)
        cases t2 : l7.all markB with
        | false =>
          rw [t2] at d2
          exact ev_pos (of_decide_eq_true d2) (ev_now (by simp))
        | true =>
          rw [t2] at d2
          refine ev_neg (of_decide_eq_false d2) ?_
          have := Dots.good_ev l8 h8
          rw [Bool.true_and, Bool.and_true]
          exact this
theorem ref_l2 (a0 a1 a2 a3 a4 : Int) (a5 : ByteArray) (l6 : List ByteArray) (l7 : List Int) (l8 : List ByteArray) (h7 : l7.length ≤ 50) : ∀ (d i : Nat), l7.length - i = d → i ≤ l7.length → Ev (fun k => estafetteref08_Good.l2 k (i : Int) a0 a1 a2 a3 a4 a5 l6 l7 l8) ((l7.drop i).all markB) := by
  intro d
  induction d with
  | zero =>
    intro i hd hi
    obtain rfl : i = l7.length := by omega
    refine Ev_succ ?_
    simp only [estafetteref08_Good.l2]
    exact ev_neg (by omega) (ev_now (by rw [List.drop_length]; rfl))
  | succ d ih =>
    intro i hd hi
    have h : i < l7.length := by omega
    refine Ev_succ ?_
    simp only [estafetteref08_Good.l2]
    refine ev_pos (by omega) (ev_pos (by omega) ?_)
    rw [rd_int l7 i h, List.drop_eq_getElem_cons h, List.all_cons]
    by_cases c1 : l7[i] < 0
    · refine ev_pos c1 (ev_now ?_)
      unfold markB
      rw [decide_eq_false (show ¬ 0 ≤ l7[i] by omega)]
      rfl
    refine ev_neg c1 ?_
    by_cases c2 : l7[i] > 2
    · refine ev_pos c2 (ev_now ?_)
      unfold markB
      rw [decide_eq_false (show ¬ l7[i] ≤ 2 by omega), Bool.and_false]
      rfl
    refine ev_neg c2 ?_
    rw [(w_succ i (by omega)).out]
    have : markB l7[i] = true := by unfold markB; rw [decide_eq_true (by omega), decide_eq_true (by omega)]; rfl
    rw [this, Bool.true_and]
    exact ih (i + 1) (by omega) (by omega)
theorem ref_l1 (a0 a1 a2 a3 a4 : Int) (a5 : ByteArray) (l6 : List ByteArray) (l7 : List Int) (l8 : List ByteArray) (h7 : l7.length ≤ 50) (h6 : l6.length ≤ 20) (hs : ∀ s ∈ l6, s.size < 4611686018427387904) : ∀ (d i : Nat), l6.length - i = d → i ≤ l6.length → Ev (fun k => estafetteref08_Good.l1 k (i : Int) a0 a1 a2 a3 a4 a5 l6 l7 l8) ((l6.drop i).all boxB && l7.all markB) := by
  intro d
  induction d with
  | zero =>
    intro i hd hi
    obtain rfl : i = l6.length := by omega
    refine Ev_succ ?_
    simp only [estafetteref08_Good.l1]
    refine ev_neg (by omega) ?_
    rw [List.drop_length, List.all_nil, Bool.true_and]
    exact ref_l2 a0 a1 a2 a3 a4 a5 l6 l7 l8 h7 l7.length 0 rfl (Nat.zero_le _)
  | succ d ih =>
    intro i hd hi
    have h : i < l6.length := by omega
    refine Ev_succ ?_
    simp only [estafetteref08_Good.l1]
    refine ev_pos (by omega) (ev_pos (by omega) ?_)
    rw [rd_str l6 i h, List.drop_eq_getElem_cons h, List.all_cons]
    refine Ev.bind (ref_box _ (hs _ (List.getElem_mem h))) ?_
    cases boxB l6[i] with
    | false => exact ev_neg (by decide) (ev_now rfl)
    | true =>
      refine ev_pos rfl ?_
      rw [(w_succ i (by omega)).out]
      exact ih (i + 1) (by omega) (by omega)
def restM (a5 : ByteArray) (l6 : List ByteArray) (l7 : List Int) (l8 : List ByteArray) : Bool := fromB a5 && (decide (1 ≤ l6.length) && (decide (l6.length ≤ 20) && (decide (l7.length ≤ 50) && (Dots.goodB l8 && (l6.all boxB && l7.all markB)))))
theorem ref_j1 (a0 a1 a2 a3 a4 : Int) (a5 : ByteArray) (l6 : List ByteArray) (l7 : List Int) (l8 : List ByteArray) (b : Bool) (r : Bool) (h : b = true → r = false) (h2 : b = false → Ev (fun k => estafetteref08_Good.l1 k 0 a0 a1 a2 a3 a4 a5 l6 l7 l8) r) : Ev (fun k => estafetteref08_Good.j1 k b a0 a1 a2 a3 a4 a5 l6 l7 l8) r := by
  refine Ev_succ ?_
  simp only [estafetteref08_Good.j1]
  cases b with
  | true => exact ev_pos rfl (ev_now (h rfl).symm)
  | false => exact ev_neg (by decide) (h2 rfl)
theorem ref_rest (a0 a1 a2 a3 a4 : Int) (a5 : ByteArray) (l6 : List ByteArray) (l7 : List Int) (l8 : List ByteArray) (hs : ∀ s ∈ l6, s.size < 4611686018427387904) (h8 : Dots.sizeL l8 < 4611686018427387904) :
    Ev (fun k => if (l6.length : Int) < 1 then estafetteref08_Good.j1 k true a0 a1 a2 a3 a4 a5 l6 l7 l8 else if (l6.length : Int) > 20 then estafetteref08_Good.j1 k true a0 a1 a2 a3 a4 a5 l6 l7 l8 else if (l7.length : Int) > 50 then estafetteref08_Good.j1 k true a0 a1 a2 a3 a4 a5 l6 l7 l8 else (estafetteref01_Good.f k l8).bind fun t => estafetteref08_Good.j1 k (!t) a0 a1 a2 a3 a4 a5 l6 l7 l8)
      (decide (1 ≤ l6.length) && (decide (l6.length ≤ 20) && (decide (l7.length ≤ 50) && (Dots.goodB l8 && (l6.all boxB && l7.all markB))))) := by
  by_cases c1 : 1 ≤ l6.length
  case neg => exact ev_pos (by omega) (ref_j1 _ _ _ _ _ _ _ _ _ _ _ (fun _ => by rw [decide_eq_false c1]; rfl) (fun h => by cases h))
  refine ev_neg (by omega) ?_
  by_cases c2 : l6.length ≤ 20
  case neg => exact ev_pos (by omega) (ref_j1 _ _ _ _ _ _ _ _ _ _ _ (fun _ => by rw [decide_eq_false c2, decide_eq_true c1]; rfl) (fun h => by cases h))
  refine ev_neg (by omega) ?_
  by_cases c3 : l7.length ≤ 50
  case neg => exact ev_pos (by omega) (ref_j1 _ _ _ _ _ _ _ _ _ _ _ (fun _ => by rw [decide_eq_false c3, decide_eq_true c1, decide_eq_true c2]; rfl) (fun h => by cases h))
  refine ev_neg (by omega) (Ev.bind (Dots.refGood_ev l8 h8) ?_)
  rw [decide_eq_true c1, decide_eq_true c2, decide_eq_true c3, Bool.true_and, Bool.true_and, Bool.true_and]
  refine ref_j1 _ _ _ _ _ _ _ _ _ _ _ (fun h => ?_) (fun h => ?_)
  · rw [Bool.not_eq_true'] at h
    rw [h]
    rfl
  · rw [Bool.not_eq_false'] at h
    rw [h, Bool.true_and]
    exact ref_l1 a0 a1 a2 a3 a4 a5 l6 l7 l8 c3 c2 hs l6.length 0 rfl (Nat.zero_le _)
theorem ref_l0 (a0 a1 a2 a3 a4 : Int) (a5 : ByteArray) (l6 : List ByteArray) (l7 : List Int) (l8 : List ByteArray) (h5 : a5.size < 4611686018427387904) (hs : ∀ s ∈ l6, s.size < 4611686018427387904) (h8 : Dots.sizeL l8 < 4611686018427387904) (L : List Int) (hL : L.length = 5) : ∀ (d i : Nat), 5 - i = d → i ≤ 5 → Ev (fun k => estafetteref08_Good.l0 k L (i : Int) a0 a1 a2 a3 a4 a5 l6 l7 l8) ((L.drop i).all timeB && restM a5 l6 l7 l8) := by
  intro d
  induction d with
  | zero =>
    intro i hd hi
    obtain rfl : i = 5 := by omega
    refine Ev_succ ?_
    simp only [estafetteref08_Good.l0]
    refine ev_neg (by omega) ?_
    rw [List.drop_of_length_le (by omega), List.all_nil, Bool.true_and]
    unfold restM fromB
    by_cases c0 : a5.size = 0
    · rw [decide_eq_true c0]
      refine ev_pos (by rw [Lib.toList_data]; exact List.eq_nil_of_length_eq_zero (by rw [size_list]; exact c0)) ?_
      exact ref_rest a0 a1 a2 a3 a4 a5 l6 l7 l8 hs h8
    · rw [decide_eq_false c0, Bool.false_or]
      refine ev_neg (fun e => c0 (by rw [← size_list, ← Lib.toList_data, e]; rfl)) (Ev.bind (ref_box a5 h5) ?_)
      cases boxB a5 with
      | false => exact ev_neg (by decide) (ref_j1 _ _ _ _ _ _ _ _ _ _ _ (fun _ => rfl) (fun h => by cases h))
      | true => exact ev_pos rfl (ref_rest a0 a1 a2 a3 a4 a5 l6 l7 l8 hs h8)
  | succ d ih =>
    intro i hd hi
    have h : i < L.length := by omega
    refine Ev_succ ?_
    simp only [estafetteref08_Good.l0]
    refine ev_pos (by omega) (ev_pos (by omega) (ev_pos (by omega) ?_))
    rw [rd_int L i h, List.drop_eq_getElem_cons h, List.all_cons]
    by_cases c1 : L[i] < 0
    · refine ev_pos c1 (ev_now ?_)
      unfold timeB
      rw [decide_eq_false (show ¬ 0 ≤ L[i] by omega)]
      rfl
    refine ev_neg c1 ?_
    by_cases c2 : L[i] > 1099511627776
    · refine ev_pos c2 (ev_now ?_)
      unfold timeB
      rw [decide_eq_false (show ¬ L[i] ≤ 1099511627776 by omega), Bool.and_false]
      rfl
    refine ev_neg c2 ?_
    rw [(w_succ i (by omega)).out]
    have : timeB L[i] = true := by unfold timeB; rw [decide_eq_true (by omega), decide_eq_true (by omega)]; rfl
    rw [this, Bool.true_and]
    exact ih (i + 1) (by omega) (by omega)
theorem ref_good_ev (a0 a1 a2 a3 a4 : Int) (a5 : ByteArray) (l6 : List ByteArray) (l7 : List Int) (l8 : List ByteArray) (h5 : a5.size < 4611686018427387904) (h6 : ∀ s ∈ l6, s.size < 4611686018427387904) (h8 : Dots.sizeL l8 < 4611686018427387904) :
    Ev (fun k => estafetteref08_Good.f k a0 a1 a2 a3 a4 a5 l6 l7 l8) (goodM a0 a1 a2 a3 a4 a5 l6 l7 l8) := by
  simp only [estafetteref08_Good.f]
  exact ref_l0 a0 a1 a2 a3 a4 a5 l6 l7 l8 h5 h6 h8 [a0, a1, a2, a3, a4] rfl 5 0 rfl (Nat.zero_le _)
end Go.Proofs.YtljhfaneepehcaaDoor.Addr
