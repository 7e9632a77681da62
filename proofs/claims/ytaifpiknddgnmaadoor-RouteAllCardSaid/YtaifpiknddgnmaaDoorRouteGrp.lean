/- What route.Group computes, for every input of the bounds told. -/
import Derived.Test.YtaifpiknddgnmaaDoorRouteBase
namespace Go.Proofs.YtaifpiknddgnmaaDoor.Addr
open Go.RowKit  Go.Proofs.YtaifpiknddgnmaaDoor.PC Go.Proofs.YtaifpiknddgnmaaDoor.PB Go.Proofs.YtaifpiknddgnmaaDoorW.PrintWords Go.Proofs.YtaifpiknddgnmaaDoorW.PrintLast Go.Proofs.YtaifpiknddgnmaaDoorW.PrintMore Go.Proofs.YtaifpiknddgnmaaDoor.Hand
set_option linter.unusedVariables false

/-! ## Group -/
def waitsL (marks : List Int) (i : Nat) : Bool := decide (marks.length ≤ i) || (marks.getD i 0 == 0)
theorem waits_eq (marks : List Int) (i : Nat) : route_waits.f marks (i : Int) = some (waitsL marks i) := by
  unfold route_waits.f waitsL
  by_cases h : marks.length ≤ i
  · rw [if_pos (by omega), decide_eq_true h, Bool.true_or]
  · rw [if_neg (by omega), if_pos (by omega), if_pos (by omega), decide_eq_false h, Bool.false_or]
    rfl
def localB : ByteArray := ⟨#[108, 111, 99, 97, 108]⟩
/-- Of the targets from place i on, those that wait and go to h, behind acc. -/
def goOn (hop : ByteArray → ByteArray × Bool) (marks : List Int) (h : ByteArray) (ok : Bool) : List ByteArray → Nat → List Int → List Int
  | [], _, acc => acc
  | t :: ts, i, acc => goOn hop marks h ok ts (i + 1) (if waitsL marks i = true ∧ hop t = (h, ok) ∧ h ≠ localB then acc ++ [(i : Int)] else acc)
def groupFrom (hop : ByteArray → ByteArray × Bool) (marks : List Int) : List ByteArray → Nat → ByteArray × List Int × Bool
  | [], _ => (⟨#[]⟩, [], false)
  | t :: ts, i => if waitsL marks i = true then ((hop t).1, goOn hop marks (hop t).1 (hop t).2 ts (i + 1) [(i : Int)], (hop t).2) else groupFrom hop marks ts (i + 1)
theorem goOn_local (hop : ByteArray → ByteArray × Bool) (marks : List Int) (ok : Bool) (ts : List ByteArray) : ∀ (i : Nat) (acc : List Int), goOn hop marks localB ok ts i acc = acc := by
  induction ts with
  | nil => intro i acc; rfl
  | cons t ts ih =>
    intro i acc
    rw [goOn, if_neg (fun h => h.2.2 rfl), ih]
theorem rd_str (l : List ByteArray) (i : Nat) (h : i < l.length) : rdOf ByteArray.empty l (i : Int) = l[i] := Hand.rd_at l i h
section
variable (l0 : List SAli) (l1 : List SHop) (l2 : List SBan) (n : Int) (hl : l1.length < 1000000000001) (ts : List ByteArray) (hts : ts.length ≤ 60) (hsz : ∀ s ∈ ts, s.size ≤ 140737488351232) (marks : List Int)
include hl hts hsz
theorem goOn_ev (h : ByteArray) (ok : Bool) : ∀ (d i : Nat) (acc : List Int), ts.length - i = d → i ≤ ts.length → acc ≠ [] → acc.length ≤ i →
    Ev (fun k => route_Group.l0 k marks h acc ok ts (ts.length : Int) (i : Int) l0 l1 l2 n) (h, goOn (hopL l1) marks h ok (ts.drop i) i acc, ok) := by
  intro d
  induction d with
  | zero =>
    intro i acc hd hi ha hal
    rw [List.drop_eq_nil_of_le (by omega)]
    refine Ev_succ ?_
    simp only [route_Group.l0]
    exact ev_neg (by omega) (ev_now rfl)
  | succ d ih =>
    intro i acc hd hi ha hal
    have hlt : i < ts.length := by omega
    have e2 := w_succ i (by omega)
    have hs := hsz _ (List.getElem_mem hlt)
    rw [List.drop_eq_getElem_cons hlt, goOn]
    have hne : ¬ (acc.length : Int) = 0 := fun h => ha (List.length_eq_zero_iff.1 (by omega))
    have k1 := ih (i + 1) acc (by omega) (by omega) ha (by omega)
    have k2 := ih (i + 1) (acc ++ [(i : Int)]) (by omega) (by omega) (by simp) (by rw [List.length_append, List.length_singleton]; omega)
    refine Ev_succ ?_
    simp only [route_Group.l0, waits_eq, e2.out, rd_str ts i hlt, hop_eq l0 l1 l2 n _ hl (show ts[i].size < 4611686018427387904 by omega)]
    refine ev_pos (by omega) (ev_pos (by omega) (ev_pos (by omega) (ev_some ?_)))
    by_cases hw : waitsL marks i = true
    · refine ev_pos hw (ev_some (ev_neg hne ?_))
      by_cases h2 : (hopL l1 ts[i]).2 = ok
      · refine ev_pos (by rw [h2]; simp) ?_
        by_cases h1 : (hopL l1 ts[i]).1 = h
        · refine ev_pos (by rw [h1]) ?_
          by_cases h3 : h = localB
          · rw [if_neg (fun hh => hh.2.2 h3)]
            exact ev_pos (by rw [lit_iff, h1, h3]; rfl) k1
          · rw [if_pos ⟨hw, Prod.ext h1 h2, h3⟩]
            exact ev_neg (by rw [lit_iff, h1]; exact h3) (ev_pos (by omega) k2)
        · rw [if_neg (fun hh => h1 (congrArg Prod.fst hh.2.1))]
          exact ev_neg (by rw [str_iff]; exact h1) k1
      · rw [if_neg (fun hh => h2 (congrArg Prod.snd hh.2.1))]
        exact ev_neg (by simpa using h2) k1
    · rw [if_neg (fun hh => hw hh.1)]
      exact ev_neg hw k1
theorem group_ev : ∀ (d i : Nat), ts.length - i = d → i ≤ ts.length →
    Ev (fun k => route_Group.l0 k marks (⟨#[]⟩ : ByteArray) ([] : List Int) false ts (ts.length : Int) (i : Int) l0 l1 l2 n) (groupFrom (hopL l1) marks (ts.drop i) i) := by
  intro d
  induction d with
  | zero =>
    intro i hd hi
    rw [List.drop_eq_nil_of_le (by omega)]
    refine Ev_succ ?_
    simp only [route_Group.l0]
    exact ev_neg (by omega) (ev_now rfl)
  | succ d ih =>
    intro i hd hi
    have hlt : i < ts.length := by omega
    have e2 := w_succ i (by omega)
    have hs := hsz _ (List.getElem_mem hlt)
    rw [List.drop_eq_getElem_cons hlt, groupFrom]
    have k1 := ih (i + 1) (by omega) (by omega)
    refine Ev_succ ?_
    simp only [route_Group.l0, waits_eq, e2.out, rd_str ts i hlt, hop_eq l0 l1 l2 n _ hl (show ts[i].size < 4611686018427387904 by omega)]
    refine ev_pos (by omega) (ev_pos (by omega) (ev_pos (by omega) (ev_some ?_)))
    by_cases hw : waitsL marks i = true
    · rw [if_pos hw]
      refine ev_pos hw (ev_some (ev_pos (by simp) (ev_pos (by simp) ?_)))
      exact goOn_ev l0 l1 l2 n hl ts hts hsz marks (hopL l1 ts[i]).1 (hopL l1 ts[i]).2 _ (i + 1) [(i : Int)] rfl (by omega) (by simp) (by simp)
    · rw [if_neg hw]
      exact ev_neg hw k1
theorem routeGroup_ev : Ev (fun k => route_Group.f k l0 l1 l2 n ts marks) (groupFrom (hopL l1) marks ts 0) := by
  have := group_ev l0 l1 l2 n hl ts hts hsz marks _ 0 rfl (Nat.zero_le _)
  rw [List.drop_zero] at this
  exact this
end
theorem goOn_len (hop : ByteArray → ByteArray × Bool) (marks : List Int) (h : ByteArray) (ok : Bool) (ts : List ByteArray) : ∀ (i : Nat) (acc : List Int), (goOn hop marks h ok ts i acc).length ≤ acc.length + ts.length := by
  induction ts with
  | nil => intro i acc; exact Nat.le_refl _
  | cons t ts ih =>
    intro i acc
    rw [goOn]
    have := ih (i + 1) (if waitsL marks i = true ∧ hop t = (h, ok) ∧ h ≠ localB then acc ++ [(i : Int)] else acc)
    split at this <;> rename_i hh
    · rw [if_pos hh]
      rw [List.length_append, List.length_singleton] at this
      rw [List.length_cons]
      omega
    · rw [if_neg hh]
      rw [List.length_cons]
      omega
theorem group_len (hop : ByteArray → ByteArray × Bool) (marks : List Int) (ts : List ByteArray) : ∀ i, (groupFrom hop marks ts i).2.1.length ≤ ts.length := by
  induction ts with
  | nil => intro i; exact Nat.le_refl _
  | cons t ts ih =>
    intro i
    rw [groupFrom]
    split
    · have := goOn_len hop marks (hop t).1 (hop t).2 ts (i + 1) [(i : Int)]
      rw [List.length_singleton] at this
      rw [List.length_cons]
      show (goOn hop marks (hop t).1 (hop t).2 ts (i + 1) [(i : Int)]).length ≤ _
      omega
    · have := ih (i + 1)
      rw [List.length_cons]
      omega
end Go.Proofs.YtaifpiknddgnmaaDoor.Addr
