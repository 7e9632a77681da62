/- RuleDomains, for every input. -/
import Derived.Test.YtpkeplifflnemaaDoorRuleBase
import Derived.Test.YtpkeplifflnemaaDoorPFx
namespace Go.Proofs.YtpkeplifflnemaaDoor.Addr
open Go.RowKit Go.Proofs.YtpkeplifflnemaaDoor.PF Go.Proofs.YtpkeplifflnemaaDoor.PC Go.Proofs.YtpkeplifflnemaaDoor.PB Go.Proofs.YtpkeplifflnemaaDoorW.PrintWords Go.Proofs.YtpkeplifflnemaaDoorW.PrintLast Go.Proofs.YtpkeplifflnemaaDoorW.PrintMore Go.Proofs.YtpkeplifflnemaaDoor.Hand
set_option linter.unusedVariables false
theorem no_at (a d e : List UInt8) (hd : domainL d = true) : ¬ mk (lowerL d) = mk (a ++ 64 :: e) := by
  intro h
  have h1 := mk_inj h
  refine no_domain (lowerL d) (by rw [domain_lower]; exact hd) 64 (by decide) (by decide) ?_
  rw [h1]
  simp
theorem ban_one (d a e : List UInt8) (hd : domainL d = true) (ha : localL a = true) : banL [⟨true, mk (lowerL d)⟩] true (mk (a ++ 64 :: e)) = (domainL e && decide (lowerL d = lowerL e)) := by
  unfold banL
  rw [list_mk, split_two, ha, Bool.true_and]
  cases he : domainL e with
  | false => rfl
  | true =>
    rw [if_pos rfl]
    show ((meets true (mk (a ++ 64 :: lowerL e)) (mk (lowerL e)) ⟨true, mk (lowerL d)⟩) || false) = _
    rw [Bool.or_false]
    unfold meets
    rw [decide_eq_false (no_at a d (lowerL e) hd)]
    simp only [Bool.false_or, BEq.rfl, Bool.true_and]
    rw [decide_eq_decide]
    exact ⟨fun h => mk_inj h, fun h => by rw [h]⟩
theorem ban_way (d a e : List UInt8) : banL [⟨true, mk (lowerL d)⟩] false (mk (a ++ 64 :: e)) = false := by
  unfold banL
  cases splitL (mk (a ++ 64 :: e)).data.toList with
  | none => rfl
  | some q => rfl
theorem app_at (a e : List UInt8) : (mk a ++ (⟨#[64]⟩ : ByteArray)) ++ mk e = mk (a ++ 64 :: e) := by
  rw [at_mk, mk_app, mk_app, List.append_assoc]
  rfl
theorem app_at2 (a e : List UInt8) : (mk a ++ (⟨#[64, 97, 46]⟩ : ByteArray)) ++ mk e = mk (a ++ 64 :: (97 :: 46 :: e)) := by
  rw [show (⟨#[64, 97, 46]⟩ : ByteArray) = mk [64, 97, 46] from rfl, mk_app, mk_app, List.append_assoc]
  rfl
theorem RuleDomains (x0 x1 x2 : ByteArray) : ∃ k, estafettelaw18_RuleDomains.f k x0 x1 x2 = some true := by
  obtain ⟨a, rfl⟩ : ∃ a, x0 = mk a := ⟨_, (mk_list x0).symm⟩
  obtain ⟨d, rfl⟩ : ∃ a, x1 = mk a := ⟨_, (mk_list x1).symm⟩
  obtain ⟨o, rfl⟩ : ∃ a, x2 = mk a := ⟨_, (mk_list x2).symm⟩
  refine Ev.rounds ?_
  unfold estafettelaw18_RuleDomains.f
  have hj : ∀ b, (b = false → a.length ≤ 100 ∧ d.length ≤ 200 ∧ o.length ≤ 200 ∧ localL a = true ∧ domainL d = true ∧ domainL o = true) → Ev (fun k => estafettelaw18_RuleDomains.j0 k (mk a) (mk d) (mk o) b) true := by
    intro b hb
    refine Ev_succ ?_
    simp only [estafettelaw18_RuleDomains.j0]
    cases b with
    | true => exact ev_pos rfl (ev_answers (ev_now rfl))
    | false =>
      obtain ⟨h1, h2, h3, ha, hd, ho⟩ := hb rfl
      have hl : Hand.ref_Lower.f (mk d) = some (mk (lowerL d)) := by unfold Hand.ref_Lower.f; rw [if_pos (by rw [mk_size]; omega), list_mk]
      have hl2 : Hand.ref_Lower.f (mk o) = some (mk (lowerL o)) := by unfold Hand.ref_Lower.f; rw [if_pos (by rw [mk_size]; omega), list_mk]
      have hu : Hand.ref_Upper.f (mk d) = some (mk (upperL d)) := by unfold Hand.ref_Upper.f; rw [if_pos (by rw [mk_size]; omega), list_mk]
      have hul : (upperL d).length = d.length := by unfold upperL; rw [List.length_map]
      have hf : ∀ e : List UInt8, e.length ≤ 300 → rule_From.f ([] : List SAli) ([] : List SHop) [⟨true, mk (lowerL d)⟩] 0 (mk (a ++ 64 :: e)) 0 = some (if (domainL e && decide (lowerL d = lowerL e)) = true then 550 else 250) := by
        intro e he
        rw [from_eq _ _ _ _ _ _ (by rw [List.length_singleton]; omega) (by rw [mk_size, List.length_append, List.length_cons]; omega), ban_one d a e hd ha]
        rfl
      have hr : rule_Rcpt.f ([] : List SAli) ([] : List SHop) [⟨true, mk (lowerL d)⟩] 0 (mk (a ++ 64 :: d)) = some 250 := by
        rw [rcpt_eq _ _ _ _ _ (by rw [List.length_singleton]; omega) (by rw [mk_size, List.length_append, List.length_cons]; omega), ban_way d a d]
        rfl
      have e1 : (⟨#[64]⟩ : ByteArray).size = 1 := rfl
      have e3 : (⟨#[64, 97, 46]⟩ : ByteArray).size = 3 := rfl
      rw [hl, hl2, hu]
      refine ev_neg (by simp) (ev_some (ev_some (ev_some (ev_some (ev_answers (ev_pos rfl (ev_pos (by rw [mk_size]; omega) (ev_some (ev_pos (by rw [ByteArray.size_append, mk_size, mk_size, e1]; omega) ?_)))))))))
      rw [app_at, app_at, app_at, app_at2, hf _ (by omega), hf _ (by omega), hf _ (by rw [List.length_cons, List.length_cons]; omega), hr]
      have c1 : (domainL (upperL d) && decide (lowerL d = lowerL (upperL d))) = true := by rw [domain_upper, hd, lowerL_upperL]; simp
      have c3 : ¬ (domainL (97 :: 46 :: d) && decide (lowerL d = lowerL (97 :: 46 :: d))) = true := by
        rw [Bool.and_eq_true, decide_eq_true_iff]
        rintro ⟨_, h⟩
        have := congrArg List.length h
        rw [lowerL_len, lowerL_len, List.length_cons, List.length_cons] at this
        omega
      rw [if_pos c1, if_neg c3, ho, Bool.true_and]
      refine ev_some (ev_pos rfl (ev_pos (by rw [ByteArray.size_append, mk_size, mk_size, e1]; omega) (ev_some (ev_pos ?_ (ev_neg (by rw [mk_size]; omega) (ev_pos (by rw [mk_size]; omega) (ev_pos (by rw [ByteArray.size_append, mk_size, mk_size, e3]; omega) (ev_some (ev_pos rfl (ev_pos (by rw [ByteArray.size_append, mk_size, mk_size, e1]; omega) (ev_some (ev_now rfl))))))))))))
      have e5 : ((mk (lowerL d)).toList == (mk (lowerL o)).toList) = decide (lowerL d = lowerL o) := by
        rw [Bool.eq_iff_iff, beq_iff_eq, decide_eq_true_iff, str_iff]
        exact ⟨fun h => mk_inj h, fun h => by rw [h]⟩
      rw [e5]
      by_cases h : lowerL d = lowerL o
      · rw [decide_eq_true h]
        rfl
      · rw [decide_eq_false h]
        rfl
  by_cases h1 : ((mk a).size : Int) > 100
  · exact ev_pos h1 (hj true (by simp))
  refine ev_neg h1 ?_
  by_cases h2 : ((mk d).size : Int) > 200
  · exact ev_pos h2 (hj true (by simp))
  refine ev_neg h2 ?_
  by_cases h3 : ((mk o).size : Int) > 200
  · exact ev_pos h3 (hj true (by simp))
  refine ev_neg h3 ?_
  rw [mk_size] at h1 h2 h3
  refine Ev.bind (refLocal_ev a (by omega)) ?_
  cases ha : localL a with
  | false => exact ev_neg (by simp) (hj true (by simp))
  | true =>
    refine ev_pos rfl (Ev.bind (refDomain_ev d (by omega)) ?_)
    cases hd : domainL d with
    | false => exact ev_neg (by simp) (hj true (by simp))
    | true =>
      refine ev_pos rfl (Ev.bind (refDomain_ev o (by omega)) (hj _ (fun hb => ⟨by omega, by omega, by omega, ha, hd, by simpa using hb⟩)))
end Go.Proofs.YtpkeplifflnemaaDoor.Addr
