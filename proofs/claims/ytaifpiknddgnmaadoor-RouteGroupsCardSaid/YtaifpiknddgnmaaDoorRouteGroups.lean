/- RouteGroups, for every input. -/
import Derived.Test.YtaifpiknddgnmaaDoorRouteGrp
import Derived.Test.YtaifpiknddgnmaaDoorRouteInts
import Derived.Test.YtaifpiknddgnmaaDoorPBx5
import Derived.Test.YtaifpiknddgnmaaDoorPEx
namespace Go.Proofs.YtaifpiknddgnmaaDoor.Addr
open Go.RowKit Go.Proofs.YtaifpiknddgnmaaDoor.PE Go.Proofs.YtaifpiknddgnmaaDoor.PC Go.Proofs.YtaifpiknddgnmaaDoor.PB Go.Proofs.YtaifpiknddgnmaaDoorW.PrintWords Go.Proofs.YtaifpiknddgnmaaDoorW.PrintLast Go.Proofs.YtaifpiknddgnmaaDoorW.PrintMore Go.Proofs.YtaifpiknddgnmaaDoor.Hand
set_option linter.unusedVariables false
section
variable (l0 : List SAli) (l1 : List SHop) (l2 : List SBan) (n : Int) (hl : l1.length < 1000000000001) (ts : List ByteArray) (hts : ts.length ≤ 60) (hsz : ∀ s ∈ ts, s.size ≤ 140737488351232) (marks : List Int)
include hl hts hsz
theorem refOn_ev (h : ByteArray) (ok : Bool) : ∀ (d i : Nat) (acc : List Int), ts.length - i = d → i ≤ ts.length → acc.length ≤ i →
    Ev (fun k => estafetteref14_Group.l1 k ts marks h ok acc (i : Int) l0 l1 l2 n) (h, goOn (hopL l1) marks h ok (ts.drop i) i acc, ok) := by
  intro d
  induction d with
  | zero =>
    intro i acc hd hi hal
    rw [List.drop_eq_nil_of_le (by omega)]
    refine Ev_succ ?_
    simp only [estafetteref14_Group.l1]
    refine ev_neg (by omega) (Ev_succ ?_)
    simp only [estafetteref14_Group.j3]
    exact ev_neg (by simp) (ev_now rfl)
  | succ d ih =>
    intro i acc hd hi hal
    have hlt : i < ts.length := by omega
    have e2 := w_succ i (by omega)
    have hs := hsz _ (List.getElem_mem hlt)
    have k1 := ih (i + 1) acc (by omega) (by omega) (by omega)
    have k2 := ih (i + 1) (acc ++ [(i : Int)]) (by omega) (by omega) (by rw [List.length_append, List.length_singleton]; omega)
    refine Ev_succ ?_
    simp only [estafetteref14_Group.l1]
    refine ev_pos (by omega) (Ev_succ ?_)
    simp only [estafetteref14_Group.j3, e2.out, rd_str ts i hlt]
    by_cases h3 : h = localB
    · rw [h3, goOn_local]
      exact ev_neg (by decide +kernel) (ev_now rfl)
    · rw [List.drop_eq_getElem_cons hlt, goOn]
      refine ev_pos (by rw [bne_iff_ne]; intro hh; exact h3 ((lit_iff _ _).1 hh)) (ev_pos (by omega) (ev_pos (by omega) (Ev.bind (refHop_ev l0 l1 l2 n _ hl (by omega)) ?_)))
      have tail : waitsL marks i = true → Ev (fun k => if (hopL l1 ts[i]).1.toList = h.toList then (if ((hopL l1 ts[i]).2 == ok) = true then (if acc.length < 17592186044416 then (estafetteref14_Group.l1 k ts marks h ok (acc ++ [(i : Int)]) ((i + 1 : Nat) : Int) l0 l1 l2 n) else none) else (estafetteref14_Group.l1 k ts marks h ok acc ((i + 1 : Nat) : Int) l0 l1 l2 n)) else (estafetteref14_Group.l1 k ts marks h ok acc ((i + 1 : Nat) : Int) l0 l1 l2 n))
          (h, goOn (hopL l1) marks h ok (ts.drop (i + 1)) (i + 1) (if waitsL marks i = true ∧ hopL l1 ts[i] = (h, ok) ∧ h ≠ localB then acc ++ [(i : Int)] else acc), ok) := by
        intro hw
        by_cases h1 : (hopL l1 ts[i]).1 = h
        · refine ev_pos (by rw [h1]) ?_
          by_cases h2 : (hopL l1 ts[i]).2 = ok
          · rw [if_pos ⟨hw, Prod.ext h1 h2, h3⟩]
            exact ev_pos (by rw [h2]; simp) (ev_pos (by omega) k2)
          · rw [if_neg (fun hh => h2 (congrArg Prod.snd hh.2.1))]
            exact ev_neg (by simpa using h2) k1
        · rw [if_neg (fun hh => h1 (congrArg Prod.fst hh.2.1))]
          exact ev_neg (by rw [str_iff]; exact h1) k1
      by_cases hm : marks.length ≤ i
      · exact ev_pos (by omega) (tail (by unfold waitsL; rw [decide_eq_true hm, Bool.true_or]))
      · refine ev_neg (by omega) (ev_pos (by omega) ?_)
        have hwe : waitsL marks i = (rd marks (i : Int) == 0) := by unfold waitsL; rw [decide_eq_false hm, Bool.false_or]; rfl
        by_cases hz : rd marks (i : Int) = 0
        · exact ev_pos hz (tail (by rw [hwe, hz]; rfl))
        · rw [if_neg (fun hh => hz (by have := hh.1; rw [hwe] at this; simpa using this))]
          exact ev_neg hz k1
theorem refFrom_ev : ∀ (d i : Nat), ts.length - i = d → i ≤ ts.length →
    Ev (fun k => estafetteref14_Group.l0 k ts marks (-1) (i : Int) l0 l1 l2 n) (groupFrom (hopL l1) marks (ts.drop i) i) := by
  intro d
  induction d with
  | zero =>
    intro i hd hi
    rw [List.drop_eq_nil_of_le (by omega)]
    refine Ev_succ ?_
    simp only [estafetteref14_Group.l0]
    refine ev_neg (by omega) (Ev_succ ?_)
    simp only [estafetteref14_Group.j1]
    exact ev_neg (by simp) (ev_pos (by omega) (ev_now rfl))
  | succ d ih =>
    intro i hd hi
    have hlt : i < ts.length := by omega
    have e2 := w_succ i (by omega)
    have hs := hsz _ (List.getElem_mem hlt)
    have k1 := ih (i + 1) (by omega) (by omega)
    have found : waitsL marks i = true → Ev (fun k => estafetteref14_Group.l0 k ts marks (i : Int) ((i + 1 : Nat) : Int) l0 l1 l2 n) (groupFrom (hopL l1) marks (ts.drop i) i) := by
      intro hw
      rw [List.drop_eq_getElem_cons hlt, groupFrom, if_pos hw]
      have fin : ∀ b, b = false → Ev (fun k => estafetteref14_Group.j1 k ts marks (i : Int) ((i + 1 : Nat) : Int) b l0 l1 l2 n) ((hopL l1 ts[i]).1, goOn (hopL l1) marks (hopL l1 ts[i]).1 (hopL l1 ts[i]).2 (ts.drop (i + 1)) (i + 1) [(i : Int)], (hopL l1 ts[i]).2) := by
        rintro b rfl
        refine Ev_succ ?_
        simp only [estafetteref14_Group.j1, e2.out, rd_str ts i hlt]
        refine ev_neg (by simp) (ev_neg (by omega) (ev_pos (by omega) (ev_pos (by omega) (Ev.bind (refHop_ev l0 l1 l2 n _ hl (by omega)) ?_))))
        exact refOn_ev l0 l1 l2 n hl ts hts hsz marks (hopL l1 ts[i]).1 (hopL l1 ts[i]).2 _ (i + 1) [(i : Int)] rfl (by omega) (by simp)
      refine Ev_succ ?_
      simp only [estafetteref14_Group.l0]
      by_cases hh : ((i + 1 : Nat) : Int) < (ts.length : Int)
      · exact ev_pos hh (fin _ (decide_eq_false (by omega)))
      · exact ev_neg hh (fin _ rfl)
    refine Ev_succ ?_
    simp only [estafetteref14_Group.l0]
    refine ev_pos (by omega) (Ev_succ ?_)
    simp only [estafetteref14_Group.j1, e2.out]
    refine ev_pos (by simp) ?_
    by_cases hm : marks.length ≤ i
    · exact ev_pos (by omega) (found (by unfold waitsL; rw [decide_eq_true hm, Bool.true_or]))
    · refine ev_neg (by omega) (ev_pos (by omega) (ev_pos (by omega) ?_))
      have hwe : waitsL marks i = (rd marks (i : Int) == 0) := by unfold waitsL; rw [decide_eq_false hm, Bool.false_or]; rfl
      by_cases hz : rd marks (i : Int) = 0
      · exact ev_pos hz (found (by rw [hwe, hz]; rfl))
      · rw [List.drop_eq_getElem_cons hlt, groupFrom, if_neg (by rw [hwe]; simpa using hz)]
        exact ev_neg hz k1
theorem refGroup_ev : Ev (fun k => estafetteref14_Group.f k l0 l1 l2 n ts marks) (groupFrom (hopL l1) marks ts 0) := by
  have := refFrom_ev l0 l1 l2 n hl ts hts hsz marks _ 0 rfl (Nat.zero_le _)
  rw [List.drop_zero] at this
  exact this
end
theorem RouteGroups (l0 : List SAli) (l1 : List SHop) (l2 : List SBan) (n : Int) (ts : List ByteArray) (marks : List Int) (hsz : ∀ s ∈ ts, s.size ≤ 140737488351232) : ∃ k, estafettelaw17_RouteGroups.f k l0 l1 l2 n ts marks = some true := by
  refine Ev.rounds ?_
  unfold estafettelaw17_RouteGroups.f
  have hj : ∀ b, (b = false → l1.length ≤ 50 ∧ ts.length ≤ 60) → Ev (fun k => estafettelaw17_RouteGroups.j0 k ts marks b l0 l1 l2 n) true := by
    intro b hb
    refine Ev_succ ?_
    simp only [estafettelaw17_RouteGroups.j0]
    cases b with
    | true => exact ev_pos rfl (ev_answers (ev_now rfl))
    | false =>
      obtain ⟨h1, h2⟩ := hb rfl
      have hg := group_len (hopL l1) marks ts 0
      refine ev_neg (by simp) (Ev.bind (routeGroup_ev l0 l1 l2 n (by omega) ts h2 hsz marks) (Ev.bind (refGroup_ev l0 l1 l2 n (by omega) ts h2 hsz marks) (ev_answers (ev_pos rfl (ev_pos rfl (ev_pos (by simp) (Ev.bind (ints_ev _ (by omega)) (ev_now rfl))))))))
  by_cases h : (l1.length : Int) > 50
  · exact ev_pos h (hj true (by simp))
  · refine ev_neg h (hj _ (fun hb => ⟨by omega, ?_⟩))
    have := of_decide_eq_false hb
    omega
end Go.Proofs.YtaifpiknddgnmaaDoor.Addr
