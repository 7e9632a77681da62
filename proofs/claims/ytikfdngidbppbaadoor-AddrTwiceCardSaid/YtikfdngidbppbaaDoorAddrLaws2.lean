/- The plain statements of chapter 1: twice, lengths. -/
import Derived.Test.YtikfdngidbppbaaDoorAddrLaws
namespace Go.Proofs.YtikfdngidbppbaaDoor.Addr
open Go.RowKit Go.Proofs.YtikfdngidbppbaaDoor.PB Go.Proofs.YtikfdngidbppbaaDoorW.PrintWords Go.Proofs.YtikfdngidbppbaaDoorW.PrintLast Go.Proofs.YtikfdngidbppbaaDoorW.PrintMore
set_option linter.unusedVariables false

theorem canonR_two (a b : List UInt8) : canonR (a ++ 64 :: b) = if localL a && domainL b then (mk (a ++ 64 :: lowerL b), true) else (mk [], false) := by
  unfold canonR
  rw [canon_two]
  cases localL a && domainL b <;> rfl
theorem join_mk (a b : List UInt8) : (mk a ++ (⟨#[64]⟩ : ByteArray)) ++ mk b = mk (a ++ 64 :: b) := by
  rw [at_mk, mk_app, mk_app]
  congr 1
  simp
theorem AddrTwice : estafettelaw01_AddrTwice.Pure := by
  intro s t hs ht
  obtain ⟨x, rfl⟩ := is_mk s
  obtain ⟨y, rfl⟩ := is_mk t
  rw [mk_size] at hs ht
  refine Ev.rounds ?_
  have skip : Ev (fun k => estafettelaw01_AddrTwice.j0 k (mk x) (mk y) true) true :=
    Ev.step (f := fun k => (estafettelaw01_answers.f k).bind fun t181 => (some t181)) (fun k => by simp only [estafettelaw01_AddrTwice.j0]; rw [if_pos trivial]) (Ev.bind answers_ev (ev_now rfl))
  unfold estafettelaw01_AddrTwice.f
  by_cases h1 : x.length ≤ 100
  case neg => exact ev_pos (by rw [mk_size]; omega) skip
  refine ev_neg (by rw [mk_size]; omega) ?_
  by_cases h2 : y.length ≤ 300
  case neg =>
    rw [mk_size, decide_eq_true (by omega)]
    exact skip
  rw [mk_size, decide_eq_false (by omega)]
  have hsz : (x ++ 64 :: y).length ≤ 401 := by rw [List.length_append, List.length_cons]; omega
  have jf : Ev (fun k => estafettelaw01_AddrTwice.j1 k (mk x) (mk y) (mk (x ++ 64 :: y)) (canonR (x ++ 64 :: y)).1 (canonR (x ++ 64 :: y)).2 false) true := by
    rw [canonR_two]
    by_cases hok : (localL x && domainL y) = true
    · rw [if_pos hok]
      rw [Bool.and_eq_true] at hok
      have hl2 : (x ++ 64 :: lowerL y).length ≤ 401 := by rw [List.length_append, List.length_cons, lowerL_len]; omega
      have hc2 : canonR (x ++ 64 :: lowerL y) = (mk (x ++ 64 :: lowerL y), true) := by
        rw [canonR_two, domain_lower, hok.1, hok.2, lowerL_twice]
        rfl
      have hs2 : splitR (x ++ 64 :: lowerL y) = (mk x, mk (lowerL y), true) := by
        unfold splitR
        rw [split_two, domain_lower, hok.1, hok.2]
        rfl
      have hp2 : pathR (60 :: ((x ++ 64 :: y) ++ [62])) = (mk (x ++ 64 :: lowerL y), true) := by
        unfold pathR
        rw [path_angle _ (by simp), route_plain (local_head x _ hok.1), Option.bind_some, canon_two, hok.1, hok.2]
        rfl
      have hjoin : ((⟨#[60]⟩ : ByteArray) ++ mk (x ++ 64 :: y)) ++ (⟨#[62]⟩ : ByteArray) = mk (60 :: ((x ++ 64 :: y) ++ [62])) := by
        rw [show (⟨#[60]⟩ : ByteArray) = mk [60] from rfl, show (⟨#[62]⟩ : ByteArray) = mk [62] from rfl, mk_app, mk_app]
        rfl
      have hlow : Hand.ref_Lower.f (mk y) = some (mk (lowerL y)) := by unfold Hand.ref_Lower.f; rw [if_pos (by rw [mk_size]; omega), list_mk]
      refine Ev.step (f := fun k => (addr_Canon.f (mk (x ++ 64 :: lowerL y))).bind fun bt187 => ((addr_Split.f (mk (x ++ 64 :: lowerL y))).bind fun bt189 => (if 1 + (mk (x ++ 64 :: y)).size ≤ 9223372036854775807 then (if ((⟨#[60]⟩ : ByteArray) ++ mk (x ++ 64 :: y)).size + 1 ≤ 9223372036854775807 then ((addr_Path.f k (((⟨#[60]⟩ : ByteArray) ++ mk (x ++ 64 :: y)) ++ (⟨#[62]⟩ : ByteArray))).bind fun bt192 => ((estafettelaw01_answers.f k).bind fun t194 => (if t194 = true then (if bt187.2 = true then (if bt187.1.toList = (mk (x ++ 64 :: lowerL y)).toList then (if bt189.2.2 = true then (if bt189.1.toList = (mk x).toList then ((Hand.ref_Lower.f (mk y)).bind fun t195 => (if bt189.2.1.toList = t195.toList then (if bt192.2 = true then (some (bt192.1.toList == (mk (x ++ 64 :: lowerL y)).toList)) else (some false)) else (some false))) else (some false)) else (some false)) else (some false)) else (some false)) else (some false)))) else (none)) else (none)))) (fun k => ?_) ?_
      · simp only [estafettelaw01_AddrTwice.j1]
        rw [if_neg (by simp), if_pos trivial]
      · rw [canon_eq _ (by omega), hc2, split_eq _ (by omega), hs2, hlow, hjoin]
        refine ev_some (ev_some (ev_pos (by rw [mk_size]; omega) (ev_pos (by rw [show (⟨#[60]⟩ : ByteArray) = mk [60] from rfl, mk_app, mk_size, List.length_append, List.length_singleton]; omega) (Ev.bind (path_ev _ (by rw [List.length_cons, List.length_append, List.length_singleton]; omega)) (Ev.bind answers_ev (ev_pos rfl ?_))))))
        rw [hp2]
        exact ev_pos rfl (ev_pos rfl (ev_pos rfl (ev_pos rfl (ev_some (ev_pos rfl (ev_pos rfl (ev_now (by simp))))))))
    · rw [if_neg hok]
      refine Ev.step (f := fun k => (estafettelaw01_answers.f k).bind fun t186 => (if t186 = true then (some ((mk []).toList == ([] : List UInt8))) else (some false))) (fun k => ?_) (Ev.bind answers_ev (ev_pos rfl (ev_now (by rw [toList_mk]; rfl))))
      simp only [estafettelaw01_AddrTwice.j1]
      rw [if_neg (by simp), if_neg (by simp)]
  refine Ev.step (f := fun k => (addr_Canon.f (mk (x ++ 64 :: y))).bind fun bt182 => ((estafetteref01_Local.f k (mk x)).bind fun t184 => (if t184 = true then ((estafetteref01_Domain.f k (mk y)).bind fun t185 => (estafettelaw01_AddrTwice.j1 k (mk x) (mk y) (mk (x ++ 64 :: y)) bt182.1 bt182.2 (bt182.2 != t185))) else (estafettelaw01_AddrTwice.j1 k (mk x) (mk y) (mk (x ++ 64 :: y)) bt182.1 bt182.2 (bt182.2 != false))))) (fun k => ?_) ?_
  · simp only [estafettelaw01_AddrTwice.j0]
    rw [if_neg (by simp), if_pos (by rw [mk_size]; omega), if_pos (by rw [at_mk, mk_app, mk_size, mk_size, List.length_append, List.length_singleton]; omega), join_mk]
  · rw [canon_eq _ (by omega)]
    refine ev_some (Ev.bind (refLocal_ev x (by omega)) ?_)
    have hok2 : (canonR (x ++ 64 :: y)).2 = (localL x && domainL y) := by
      rw [canonR_two]
      cases localL x && domainL y <;> rfl
    by_cases hx : localL x = true
    · refine ev_pos hx (Ev.bind (refDomain_ev y (by omega)) ?_)
      rw [show ((canonR (x ++ 64 :: y)).2 != domainL y) = false from by rw [hok2, hx]; cases domainL y <;> rfl]
      exact jf
    · refine ev_neg hx ?_
      have hx' : localL x = false := by simpa using hx
      rw [show ((canonR (x ++ 64 :: y)).2 != false) = false from by rw [hok2, hx']; rfl]
      exact jf
end Go.Proofs.YtikfdngidbppbaaDoor.Addr
