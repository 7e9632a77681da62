/- RuleMore, for every input. -/
import Derived.Test.YtpkeplifflnemaaDoorRuleBase
import Derived.Test.YtpkeplifflnemaaDoorPEx
namespace Go.Proofs.YtpkeplifflnemaaDoor.Addr
open Go.RowKit Go.Proofs.YtpkeplifflnemaaDoor.PE Go.Proofs.YtpkeplifflnemaaDoor.PC Go.Proofs.YtpkeplifflnemaaDoor.PB Go.Proofs.YtpkeplifflnemaaDoorW.PrintWords Go.Proofs.YtpkeplifflnemaaDoorW.PrintLast Go.Proofs.YtpkeplifflnemaaDoorW.PrintMore Go.Proofs.YtpkeplifflnemaaDoor.Hand
set_option linter.unusedVariables false
def oneMore (b : SBan) (g : Bool) (s : ByteArray) : Bool := match splitL s.data.toList with
  | some (x, y) => meets g (mk (x ++ 64 :: lowerL y)) (mk (lowerL y)) b
  | none => false
theorem ban_app (l : List SBan) (b : SBan) (g : Bool) (s : ByteArray) : banL (l ++ [b]) g s = (banL l g s || oneMore b g s) := by
  unfold banL oneMore
  cases splitL s.data.toList with
  | none => rfl
  | some q => simp
theorem one_other (b : SBan) (g : Bool) (s : ByteArray) (h : b.f0 ≠ g) : oneMore b g s = false := by
  unfold oneMore
  cases splitL s.data.toList with
  | none => rfl
  | some q =>
    unfold meets
    rw [show (b.f0 == g) = false from by simpa using h]
    rfl
theorem RuleMore (l0 : List SAli) (l1 : List SHop) (l2 : List SBan) (n : Int) (f : Bool) (name s : ByteArray) (size : Int) (hs : s.size ≤ 140737488351232) : ∃ k, estafettelaw18_RuleMore.f k l0 l1 l2 n f name s size = some true := by
  refine Ev.rounds ?_
  unfold estafettelaw18_RuleMore.f
  have hj : ∀ b, (b = false → l2.length ≤ 50) → Ev (fun k => estafettelaw18_RuleMore.j0 k s size b l0 l1 l2 n f name) true := by
    intro b hb
    refine Ev_succ ?_
    simp only [estafettelaw18_RuleMore.j0]
    cases b with
    | true => exact ev_pos rfl (ev_answers (ev_now rfl))
    | false =>
      have hl := hb rfl
      have hl2 : (l2 ++ [(⟨f, name⟩ : SBan)]).length ≤ 51 := by rw [List.length_append, List.length_singleton]; omega
      refine ev_neg (by simp) (ev_some (ev_pos (by rw [List.length_nil]; omega) (ev_some (ev_some (ev_pos (by rw [List.nil_append, List.length_singleton]; omega) (ev_some ?_))))))
      simp only [List.nil_append, from_eq l0 l1 l2 n s size (by omega) (by omega : s.size < 4611686018427387904), from_eq l0 l1 (l2 ++ [(⟨f, name⟩ : SBan)]) n s size (by omega) (by omega : s.size < 4611686018427387904),
        rcpt_eq l0 l1 l2 n s (by omega) (by omega : s.size < 4611686018427387904), rcpt_eq l0 l1 (l2 ++ [(⟨f, name⟩ : SBan)]) n s (by omega) (by omega : s.size < 4611686018427387904)]
      refine ev_some (ev_some (ev_some (ev_some ?_)))
      rw [ban_app, ban_app]
      have hz : ∀ c : Prop, [Decidable c] → (if c then (552 : Int) else 250) ≠ 550 := by
        intro c _
        split <;> omega
      have hz := hz (size > (if 1 ≤ n ∧ n ≤ 65536 then n else 65536))
      generalize (if size > (if 1 ≤ n ∧ n ≤ 65536 then n else 65536) then (552 : Int) else 250) = z at hz ⊢
      cases f with
      | true =>
        rw [one_other ⟨true, name⟩ false s (by simp), Bool.or_false]
        refine ev_pos rfl (ev_answers (ev_pos rfl (ev_pos rfl ?_)))
        cases banL l2 true s with
        | true =>
          rw [Bool.true_or, if_pos rfl]
          exact ev_pos rfl (ev_pos rfl (ev_pos rfl (ev_now rfl)))
        | false =>
          rw [Bool.false_or, if_neg (show ¬ (false = true) by simp)]
          refine ev_neg hz ?_
          cases oneMore ⟨true, name⟩ true s with
          | true =>
            rw [if_pos rfl]
            exact ev_neg (fun h => hz h.symm) (ev_now rfl)
          | false =>
            rw [if_neg (show ¬ (false = true) by simp)]
            exact ev_pos rfl (ev_now rfl)
      | false =>
        rw [one_other ⟨false, name⟩ true s (by simp), Bool.or_false]
        refine ev_neg (by simp) (ev_answers (ev_pos rfl (ev_pos rfl ?_)))
        cases banL l2 false s with
        | true =>
          rw [Bool.true_or, if_pos rfl]
          exact ev_pos rfl (ev_now rfl)
        | false =>
          rw [if_neg (show ¬ (false = true) by simp)]
          exact ev_neg (by omega) (ev_now rfl)
  by_cases h : (l2.length : Int) > 50
  · exact ev_pos h (hj true (by simp))
  · exact ev_neg h (hj _ (fun _ => by omega))
end Go.Proofs.YtpkeplifflnemaaDoor.Addr
