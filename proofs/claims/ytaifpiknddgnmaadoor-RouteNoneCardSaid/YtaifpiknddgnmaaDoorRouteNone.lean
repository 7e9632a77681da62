/- RouteNone, for every input. -/
import Derived.Test.YtaifpiknddgnmaaDoorRouteGrp
import Derived.Test.YtaifpiknddgnmaaDoorRouteInts
import Derived.Test.YtaifpiknddgnmaaDoorPGx
namespace Go.Proofs.YtaifpiknddgnmaaDoor.Addr
open Go.RowKit Go.Proofs.YtaifpiknddgnmaaDoor.PG Go.Proofs.YtaifpiknddgnmaaDoor.PC Go.Proofs.YtaifpiknddgnmaaDoor.PB Go.Proofs.YtaifpiknddgnmaaDoorW.PrintWords Go.Proofs.YtaifpiknddgnmaaDoorW.PrintLast Go.Proofs.YtaifpiknddgnmaaDoorW.PrintMore Go.Proofs.YtaifpiknddgnmaaDoor.Hand
set_option linter.unusedVariables false

/-! ## RouteNone -/
def waitsFrom (marks : List Int) : List ByteArray → Nat → List Int
  | [], _ => []
  | t :: ts, i => if waitsL marks i = true then (i : Int) :: waitsFrom marks ts (i + 1) else waitsFrom marks ts (i + 1)
theorem goOn_none (hop : ByteArray → ByteArray × Bool) (hh : ∀ t, hop t = (⟨#[]⟩, false)) (marks : List Int) (ts : List ByteArray) : ∀ (i : Nat) (acc : List Int), goOn hop marks ⟨#[]⟩ false ts i acc = acc ++ waitsFrom marks ts i := by
  induction ts with
  | nil => intro i acc; rw [goOn, waitsFrom, List.append_nil]
  | cons t ts ih =>
    intro i acc
    rw [goOn, waitsFrom]
    by_cases h : waitsL marks i = true
    · rw [if_pos ⟨h, hh t, by decide⟩, if_pos h, ih, List.append_assoc]
      rfl
    · rw [if_neg (fun k => h k.1), if_neg h, ih]
theorem group_none (hop : ByteArray → ByteArray × Bool) (hh : ∀ t, hop t = (⟨#[]⟩, false)) (marks : List Int) (ts : List ByteArray) : ∀ i, groupFrom hop marks ts i = (⟨#[]⟩, waitsFrom marks ts i, false) := by
  induction ts with
  | nil => intro i; rfl
  | cons t ts ih =>
    intro i
    rw [groupFrom, waitsFrom]
    by_cases h : waitsL marks i = true
    · rw [if_pos h, if_pos h, hh t]
      show ((⟨#[]⟩ : ByteArray), goOn hop marks ⟨#[]⟩ false ts (i + 1) [(i : Int)], false) = _
      rw [goOn_none hop hh]
      rfl
    · rw [if_neg h, if_neg h, ih]
theorem hopL_nil (s : ByteArray) : hopL [] s = (⟨#[]⟩, false) := by
  unfold hopL
  cases splitL s.data.toList with
  | none => rfl
  | some q => rfl
theorem none_loop (ts : List ByteArray) (hts : ts.length ≤ 60) (marks want : List Int) (hw : want.length ≤ 60) : ∀ (d i : Nat) (acc : List Int), ts.length - i = d → i ≤ ts.length → acc.length ≤ i → acc ++ waitsFrom marks (ts.drop i) i = want →
    Ev (fun k => estafettelaw17_RouteNone.l0 k ts marks (⟨#[]⟩ : ByteArray) want false acc (i : Int)) true := by
  intro d
  induction d with
  | zero =>
    intro i acc hd hi ha he
    rw [List.drop_eq_nil_of_le (by omega), waitsFrom, List.append_nil] at he
    subst he
    refine Ev_succ ?_
    simp only [estafettelaw17_RouteNone.l0]
    exact ev_neg (by omega) (ev_answers (ev_pos rfl (ev_pos (by rw [lit_iff]; rfl) (ev_neg (by simp) (Ev.bind (ints_ev _ (by omega)) (ev_now rfl))))))
  | succ d ih =>
    intro i acc hd hi ha he
    have hlt : i < ts.length := by omega
    have e2 := w_succ i (by omega)
    rw [List.drop_eq_getElem_cons hlt, waitsFrom] at he
    have yes : waitsL marks i = true → Ev (fun k => estafettelaw17_RouteNone.l0 k ts marks (⟨#[]⟩ : ByteArray) want false (acc ++ [(i : Int)]) ((i + 1 : Nat) : Int)) true := by
      intro h
      rw [if_pos h] at he
      exact ih (i + 1) (acc ++ [(i : Int)]) (by omega) (by omega) (by rw [List.length_append, List.length_singleton]; omega) (by rw [List.append_assoc]; exact he)
    refine Ev_succ ?_
    simp only [estafettelaw17_RouteNone.l0, e2.out]
    refine ev_pos (by omega) ?_
    by_cases hm : marks.length ≤ i
    · exact ev_pos (by omega) (ev_pos (by omega) (yes (by unfold waitsL; rw [decide_eq_true hm, Bool.true_or])))
    · refine ev_neg (by omega) (ev_pos (by omega) (ev_pos (by omega) ?_))
      have hwe : waitsL marks i = (rd marks (i : Int) == 0) := by unfold waitsL; rw [decide_eq_false hm, Bool.false_or]; rfl
      by_cases hz : rd marks (i : Int) = 0
      · exact ev_pos hz (ev_pos (by omega) (yes (by rw [hwe, hz]; rfl)))
      · rw [if_neg (by rw [hwe]; simpa using hz)] at he
        exact ev_neg hz (ih (i + 1) acc (by omega) (by omega) (by omega) he)
theorem RouteNone (ts : List ByteArray) (marks : List Int) (hsz : ∀ s ∈ ts, s.size ≤ 140737488351232) : ∃ k, estafettelaw17_RouteNone.f k ts marks = some true := by
  refine Ev.rounds ?_
  unfold estafettelaw17_RouteNone.f
  by_cases h : (ts.length : Int) > 60
  · exact ev_pos h (ev_answers (ev_now rfl))
  · have hts : ts.length ≤ 60 := by omega
    have hg := group_len (hopL []) marks ts 0
    have h1 := routeGroup_ev [] [] [] 0 (by decide) ts hts hsz marks
    rw [group_none _ hopL_nil] at h1 hg
    refine ev_neg h (Ev.bind h1 ?_)
    exact none_loop ts hts marks _ (Nat.le_trans hg hts) _ 0 [] rfl (Nat.zero_le _) (Nat.le_refl _) (by rw [List.drop_zero, List.nil_append])
end Go.Proofs.YtaifpiknddgnmaaDoor.Addr
