/- RuleCodes, for every input. -/
import Derived.Test.YtpkeplifflnemaaDoorRuleBase
import Derived.Test.YtpkeplifflnemaaDoorPDx
namespace Go.Proofs.YtpkeplifflnemaaDoor.Addr
open Go.RowKit Go.Proofs.YtpkeplifflnemaaDoor.PD Go.Proofs.YtpkeplifflnemaaDoor.PC Go.Proofs.YtpkeplifflnemaaDoor.PB Go.Proofs.YtpkeplifflnemaaDoorW.PrintWords Go.Proofs.YtpkeplifflnemaaDoorW.PrintLast Go.Proofs.YtpkeplifflnemaaDoorW.PrintMore Go.Proofs.YtpkeplifflnemaaDoor.Hand
set_option linter.unusedVariables false
theorem banned_loop (l0 : List SAli) (l1 : List SHop) (l2 : List SBan) (n : Int) (f : Bool) (c d : ByteArray) (hl : l2.length < 1000000000001) : ∀ (z i : Nat), l2.length - i = z → i ≤ l2.length →
    Ev (fun k => estafetteref14_Banned.l0 k f c true d (i : Int) l0 l1 l2 n) ((l2.drop i).any (meets f c d)) := by
  intro z
  induction z with
  | zero =>
    intro i hd hi
    rw [List.drop_eq_nil_of_le (by omega)]
    refine Ev_succ ?_
    simp only [estafetteref14_Banned.l0]
    refine ev_neg (by omega) (Ev_succ ?_)
    simp only [estafetteref14_Banned.j1]
    exact ev_neg (by simp) (ev_now rfl)
  | succ z ih =>
    intro i hd hi
    have hlt : i < l2.length := by omega
    have e2 := w_succ i (by omega)
    have hn := ih (i + 1) (by omega) (by omega)
    rw [List.drop_eq_getElem_cons hlt, List.any_cons]
    refine Ev_succ ?_
    simp only [estafetteref14_Banned.l0]
    refine ev_pos (by omega) (Ev_succ ?_)
    simp only [estafetteref14_Banned.j1, e2.out, rd_ban l2 i hlt]
    refine ev_pos trivial (ev_pos (by omega) (ev_pos (by omega) ?_))
    have hm : meets f c d l2[i] = ((l2[i].f0 == f) && (decide (l2[i].f1 = c) || decide (l2[i].f1 = d))) := rfl
    by_cases h0 : l2[i].f0 = f
    · refine ev_pos (by rw [h0]; simp) ?_
      by_cases h1 : l2[i].f1 = c
      · rw [hm, h0, h1, decide_eq_true rfl]
        exact ev_pos rfl (ev_now (by simp))
      · refine ev_neg (by rw [str_iff]; exact h1) ?_
        by_cases h2 : l2[i].f1 = d
        · rw [hm, h0, h2, decide_eq_true rfl]
          exact ev_pos rfl (ev_now (by simp))
        · refine ev_neg (by rw [str_iff]; exact h2) ?_
          rw [hm, decide_eq_false h1, decide_eq_false h2]
          simpa using hn
    · refine ev_neg (by simpa using h0) ?_
      rw [hm, show (l2[i].f0 == f) = false from by simpa using h0]
      simpa using hn
theorem banned_ev (l0 : List SAli) (l1 : List SHop) (l2 : List SBan) (n : Int) (f : Bool) (s : ByteArray) (hl : l2.length < 1000000000001) (hs : s.size < 4611686018427387904) : Ev (fun k => estafetteref14_Banned.f k l0 l1 l2 n f s) (banL l2 f s) := by
  unfold estafetteref14_Banned.f
  have h := refCanon_ev s.data.toList (by rw [size_list]; exact hs)
  rw [mk_list] at h
  refine Ev.bind h ?_
  unfold canonR canonL banL
  cases e : splitL s.data.toList with
  | none =>
    refine Ev.bind (refSplit_ev [] (by decide)) (Ev_succ ?_)
    simp only [estafetteref14_Banned.l0]
    have hj : Ev (fun k => estafetteref14_Banned.j1 (k + 1) f (mk []) false (mk []) 0 false l0 l1 l2 n) false := by
      simp only [estafetteref14_Banned.j1]
      exact ev_neg (by simp) (ev_now rfl)
    by_cases h0 : (0 : Int) < (l2.length : Int)
    · exact ev_pos h0 (Ev_succ hj)
    · exact ev_neg h0 (Ev_succ hj)
  | some q =>
    obtain ⟨a, b⟩ := q
    obtain ⟨h1, h2⟩ := split_len e
    have h3 := refSplit_ev (a ++ 64 :: lowerL b) (by rw [List.length_append, List.length_cons, lowerL_len]; omega)
    unfold splitR at h3
    rw [split_low e] at h3
    have e5 : a ++ [64] ++ lowerL b = a ++ 64 :: lowerL b := by simp
    dsimp only [Option.map]
    rw [e5]
    refine Ev.bind h3 ?_
    exact banned_loop l0 l1 l2 n f _ _ hl _ 0 rfl (Nat.zero_le _)
theorem RuleCodes (l0 : List SAli) (l1 : List SHop) (l2 : List SBan) (n : Int) (s : ByteArray) (size : Int) (hs : s.size ≤ 140737488351232) : ∃ k, estafettelaw18_RuleCodes.f k l0 l1 l2 n s size = some true := by
  refine Ev.rounds ?_
  unfold estafettelaw18_RuleCodes.f
  have hj : ∀ b, (b = false → l2.length < 1000000000001) → Ev (fun k => estafettelaw18_RuleCodes.j0 k s size b l0 l1 l2 n) true := by
    intro b hb
    refine Ev_succ ?_
    simp only [estafettelaw18_RuleCodes.j0]
    cases b with
    | true => exact ev_pos rfl (ev_answers (ev_now rfl))
    | false =>
      have hl := hb rfl
      have h3 : ∀ x y : Int, x = (if banL l2 true s = true then 550 else if size > (if 1 ≤ n ∧ n ≤ 65536 then n else 65536) then 552 else 250) → y = (if banL l2 false s = true then 550 else 250) → Ev (fun k => estafettelaw18_RuleCodes.j3 k s size x y l0 l1 l2 n) true := by
        rintro x y rfl rfl
        refine Ev_succ ?_
        simp only [estafettelaw18_RuleCodes.j3, from_eq l0 l1 l2 n s size hl (by omega : s.size < 4611686018427387904), rcpt_eq l0 l1 l2 n s hl (by omega : s.size < 4611686018427387904), size_eq, refSize_eq]
        exact ev_answers (ev_pos rfl (ev_some (ev_pos rfl (ev_some (ev_pos rfl (ev_some (ev_some (ev_now (by simp)))))))))
      have h2 : ∀ x : Int, x = (if banL l2 true s = true then 550 else if size > (if 1 ≤ n ∧ n ≤ 65536 then n else 65536) then 552 else 250) → Ev (fun k => estafettelaw18_RuleCodes.j2 k s size x 250 l0 l1 l2 n) true := by
        intro x hx
        refine Ev_succ ?_
        simp only [estafettelaw18_RuleCodes.j2]
        refine Ev.bind (banned_ev l0 l1 l2 n false s hl (by omega)) ?_
        by_cases h : banL l2 false s = true
        · exact ev_pos h (h3 _ _ hx (by rw [if_pos h]))
        · exact ev_neg h (h3 _ _ hx (by rw [if_neg h]))
      have h1 : ∀ x : Int, x = (if size > (if 1 ≤ n ∧ n ≤ 65536 then n else 65536) then 552 else 250) → Ev (fun k => estafettelaw18_RuleCodes.j1 k s size x 250 l0 l1 l2 n) true := by
        rintro x rfl
        refine Ev_succ ?_
        simp only [estafettelaw18_RuleCodes.j1]
        refine Ev.bind (banned_ev l0 l1 l2 n true s hl (by omega)) ?_
        by_cases h : banL l2 true s = true
        · exact ev_pos h (h2 _ (by rw [if_pos h]))
        · exact ev_neg h (h2 _ (by rw [if_neg h]))
      refine ev_neg (by simp) ?_
      rw [refSize_eq]
      refine ev_some ?_
      by_cases h : size > (if 1 ≤ n ∧ n ≤ 65536 then n else 65536)
      · exact ev_pos h (h1 _ (by rw [if_pos h]))
      · exact ev_neg h (h1 _ (by rw [if_neg h]))
  by_cases h : (l2.length : Int) > 100
  · exact ev_pos h (hj true (by simp))
  · exact ev_neg h (hj _ (fun _ => by omega))
end Go.Proofs.YtpkeplifflnemaaDoor.Addr
