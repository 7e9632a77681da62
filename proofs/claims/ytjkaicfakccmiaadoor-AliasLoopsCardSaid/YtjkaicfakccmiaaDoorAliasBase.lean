/- What alias.canon, Has, Texts and the laws' names compute; what Expand computes without aliases. -/
import Derived.Test.YtjkaicfakccmiaaDoorPCx1
import Derived.Test.YtjkaicfakccmiaaDoorAddrRefC
namespace Go.Proofs.YtjkaicfakccmiaaDoor.Addr
open Go.RowKit Go.Proofs.YtjkaicfakccmiaaDoor.PC Go.Proofs.YtjkaicfakccmiaaDoor.PB Go.Proofs.YtjkaicfakccmiaaDoorW.PrintWords Go.Proofs.YtjkaicfakccmiaaDoorW.PrintLast Go.Proofs.YtjkaicfakccmiaaDoorW.PrintMore Go.Proofs.YtjkaicfakccmiaaDoor.Hand
set_option linter.unusedVariables false
theorem Ev_succ {α : Type} {g : Nat → Option α} {r : α} (h : Ev (fun k => g (k + 1)) r) : Ev g r := Ev.step (f := fun k => g (k + 1)) (fun _ => rfl) h
def canB (s : ByteArray) : ByteArray := match canonL s.data.toList with
  | some c => mk c
  | none => s
theorem canB_eq (s : ByteArray) (hs : s.size < 4611686018427387904) : alias_canon.f s = some (canB s) := by
  unfold alias_canon.f
  have h := canon_eq s.data.toList (by rw [size_list]; exact hs)
  rw [mk_list] at h
  rw [h]
  unfold canonR canB
  cases canonL s.data.toList with
  | none => rfl
  | some c => rfl
theorem answers_ev : Ev (fun k => estafettelaw16_answers.f k) true := Ev.of (k := 5) estafettelaw16_answers.mono (by decide +kernel)
theorem rd_at (l : List ByteArray) (i : Nat) (h : i < l.length) : rdOf ByteArray.empty l (i : Int) = l[i] := by
  unfold rdOf
  simp [List.getD_eq_getElem?_getD, h]
theorem toList_iff (a b : ByteArray) : a.toList = b.toList ↔ a = b := by
  constructor
  · intro h
    have := str_eqb a b
    rw [h] at this
    simpa using this.symm
  · rintro rfl
    rfl
theorem has_loop (s : ByteArray) (l : List ByteArray) (hl : l.length < 1000000000000) : ∀ (d i : Nat), l.length - i = d → i ≤ l.length → Ev (fun k => estafetteref14_Has.l0 k l s (i : Int)) (hasS s (l.drop i)) := by
  intro d
  induction d with
  | zero =>
    intro i hd hi
    obtain rfl : i = l.length := by omega
    refine Ev_succ ?_
    simp only [estafetteref14_Has.l0]
    refine ev_neg (by omega) (ev_now ?_)
    rw [List.drop_length]
    rfl
  | succ d ih =>
    intro i hd hi
    have h : i < l.length := by omega
    refine Ev_succ ?_
    simp only [estafetteref14_Has.l0]
    refine ev_pos (by omega) (ev_pos (by omega) ?_)
    rw [rd_at l i h, List.drop_eq_getElem_cons h]
    by_cases e : l[i] = s
    · refine ev_pos ((toList_iff _ _).2 e) (ev_now ?_)
      unfold hasS
      rw [List.any_cons, decide_eq_true e]
      rfl
    · refine ev_neg (fun k => e ((toList_iff _ _).1 k)) ?_
      rw [(w_succ i (by omega)).out]
      have := ih (i + 1) (by omega) (by omega)
      unfold hasS at this ⊢
      rw [List.any_cons, decide_eq_false e, Bool.false_or]
      exact this
theorem has_ev (s : ByteArray) (l : List ByteArray) (hl : l.length < 1000000000000) : Ev (fun k => estafetteref14_Has.f k l s) (hasS s l) := has_loop s l hl l.length 0 rfl (Nat.zero_le _)
theorem texts_loop (l : List ByteArray) (hl : l.length < 1000000000000) : ∀ (d i : Nat), l.length - i = d → i ≤ l.length → Ev (fun k => estafetteref01_Texts.l0 k l l (i : Int)) true := by
  intro d
  induction d with
  | zero =>
    intro i hd hi
    refine Ev_succ ?_
    simp only [estafetteref01_Texts.l0]
    exact ev_neg (by omega) (ev_now rfl)
  | succ d ih =>
    intro i hd hi
    refine Ev_succ ?_
    simp only [estafetteref01_Texts.l0]
    refine ev_pos (by omega) (ev_pos (by omega) (ev_pos (by omega) (ev_pos (by trivial) ?_)))
    rw [(w_succ i (by omega)).out]
    exact ih (i + 1) (by omega) (by omega)
theorem texts_ev (l : List ByteArray) (hl : l.length < 1000000000000) : Ev (fun k => estafetteref01_Texts.f k l l) true := by
  unfold estafetteref01_Texts.f
  exact ev_pos rfl (texts_loop l hl l.length 0 rfl (Nat.zero_le _))
/-! ## without an alias -/
def addO (out : List ByteArray) (s : ByteArray) : List ByteArray := if hasS (canB s) out = true then out else out ++ [canB s]
theorem addO_len (out : List ByteArray) (s : ByteArray) : (addO out s).length ≤ out.length + 1 := by
  unfold addO
  split <;> simp
/-- A name without an alias comes out once. -/
theorem open_none (al : List AliasS) (k : Nat) (op out : List ByteArray) (s : ByteArray) (hs : s.size < 4611686018427387904) (ha : alAt (canB s) al = none) (ho : op.length ≤ 1000000) (hu : out.length ≤ 1000000) : openO al (k + 1) (op, out) s = some (op, addO out s) := by
  rw [openO, canB_eq s hs, Option.bind_some, if_pos ⟨.inl ha, ho, hu⟩, ha]
  rfl
theorem fold_none (al : List AliasS) (k : Nat) (op : List ByteArray) (ho : op.length ≤ 1000000) : ∀ (l : List ByteArray) (out : List ByteArray), (∀ s ∈ l, s.size < 4611686018427387904 ∧ alAt (canB s) al = none) → out.length + l.length ≤ 1000000 → l.foldlM (fun st x => openO al (k + 1) st x) (op, out) = some (op, l.foldl addO out) := by
  intro l
  induction l with
  | nil => exact fun _ _ _ => rfl
  | cons s l ih =>
    intro out h hl
    rw [List.length_cons] at hl
    rw [List.foldlM_cons, open_none al k op out s (h s List.mem_cons_self).1 (h s List.mem_cons_self).2 ho (by omega)]
    have := addO_len out s
    exact ih _ (fun s hs => h s (List.mem_cons_of_mem _ hs)) (by omega)
theorem addAll_len (l : List ByteArray) : ∀ out : List ByteArray, (l.foldl addO out).length ≤ out.length + l.length := by
  induction l with
  | nil => exact fun _ => Nat.le_refl _
  | cons s l ih =>
    intro out
    have h1 := ih (addO out s)
    have h2 := addO_len out s
    rw [List.foldl_cons, List.length_cons]
    omega
theorem addAll_pre (l : List ByteArray) : ∀ out : List ByteArray, ∃ t, l.foldl addO out = out ++ t := by
  induction l with
  | nil => exact fun out => ⟨[], (List.append_nil _).symm⟩
  | cons s l ih =>
    intro out
    obtain ⟨t, ht⟩ := ih (addO out s)
    rw [List.foldl_cons, ht]
    unfold addO
    split
    · exact ⟨t, rfl⟩
    · exact ⟨canB s :: t, by rw [List.append_assoc]; rfl⟩
theorem expand_none (rc : List ByteArray) (hr : rc.length ≤ 60) (h : ∀ s ∈ rc, s.size ≤ 140737488351232) (l1 : List S96) (l2 : List S98) (z : Int) : Ev (fun k => Hand.alias_Expand.f k [] l1 l2 z rc) ((rc.foldl addO []).take 50) := by
  refine Ev_succ (Ev.of (k := 0) (fun k => Hand.alias_Expand.mono _ _ _ _ _ (k + 1)) ?_)
  unfold Hand.alias_Expand.f expandO
  rw [if_pos ⟨by simp, by omega⟩, fold_none [] 0 [] (by simp) rc [] (fun s hs => ⟨by have := h s hs; omega, rfl⟩) (by simp; omega), Option.bind_some, if_pos]
  have := addAll_len rc []
  rw [List.length_nil] at this
  show (rc.foldl addO []).length ≤ 1000000
  omega
end Go.Proofs.YtjkaicfakccmiaaDoor.Addr
