/- For every input: what the functions below return, or the statement that this text proves. Written by a program of this claim.s author (a turned print). -/
import Derived.Test.YtpkeplifflnemaaDoorRows
import Derived.Test.YtpkeplifflnemaaDoorPEx1
import Derived.Test.YtpkeplifflnemaaDoorPureRuleMore
import Derived.Test.YtpkeplifflnemaaDoorArgs
import Derived.Test.YtpkeplifflnemaaDoorCards
import Derived.Test.YtpkeplifflnemaaDoorTie
import Derived.LaidMore
import Derived.Lay
import Derived.SevenTiedAt
import Derived.Stop.Joined
import Derived.WalkKit
import Derived.ProofKit
import Derived.OpenShut
import Derived.ShutString
import Derived.ChangeOld
import Derived.Below
import Derived.SizedLaws
namespace Go.Proofs.YtpkeplifflnemaaDoor.ruleMore
open Go.ChangeShapes Go.WideShapes Go.ChangeAt Go.RowKit Go.Proofs.YtpkeplifflnemaaDoor.PE Go.Proofs.YtpkeplifflnemaaDoor.Args Go.Proofs.YtpkeplifflnemaaDoorW.PrintWords Go.Proofs.YtpkeplifflnemaaDoorW.PrintLast
open Go.Proofs.YtpkeplifflnemaaDoor.PB Go.Proofs.YtpkeplifflnemaaDoor.PC
open Go.ChangeMaps (open_string shut_string)
set_option linter.unusedVariables false
set_option linter.unusedSimpArgs false
theorem own : ownKnob Tryd.prog.godebug = none := by kernel_rfl
theorem laidOut : laidOutB Tryd.prog = true := by kernel_rfl
theorem reads0 : Rd Tryd.prog 26 k26 (fun x => ((x.f0.length * 40 ≤ 140737488351232 ∧ ∀ e0 ∈ x.f0, (e0.f0.size ≤ 140737488351232 ∧ (e0.f1.length * 16 ≤ 140737488351232 ∧ ∀ e1 ∈ e0.f1, e1.size ≤ 140737488351232))) ∧ ((x.f1.length * 32 ≤ 140737488351232 ∧ ∀ e0 ∈ x.f1, (e0.f0.size ≤ 140737488351232 ∧ e0.f1.size ≤ 140737488351232)) ∧ ((x.f2.length * 24 ≤ 140737488351232 ∧ ∀ e0 ∈ x.f2, (True ∧ e0.f1.size ≤ 140737488351232)) ∧ (Lit.int .i64 x.f3).wf = true)))) := (rd_struct (fun x => (⟨x.1, x.2.1, x.2.2.1, x.2.2.2⟩ : S26)) (fun _ => rfl) Tryd.underlying26 rfl (by kernel_rfl) (rdf_cons rfl (by kernel_rfl) (rd_slice (B := 40) Tryd.underlying22 (by kernel_rfl) (by kernel_rfl) (rd_struct (fun x => (⟨x.1, x.2⟩ : S88)) (fun _ => rfl) Tryd.underlying88 rfl (by kernel_rfl) (rdf_cons rfl (by kernel_rfl) (rd_string Tryd.underlying9) (rdf_one rfl (by kernel_rfl) (rd_slice (B := 16) Tryd.underlying43 (by kernel_rfl) (by kernel_rfl) (rd_string Tryd.underlying9)))))) (rdf_cons rfl (by kernel_rfl) (rd_slice (B := 32) Tryd.underlying23 (by kernel_rfl) (by kernel_rfl) (rd_struct (fun x => (⟨x.1, x.2⟩ : S90)) (fun _ => rfl) Tryd.underlying90 rfl (by kernel_rfl) (rdf_cons rfl (by kernel_rfl) (rd_string Tryd.underlying9) (rdf_one rfl (by kernel_rfl) (rd_string Tryd.underlying9))))) (rdf_cons rfl (by kernel_rfl) (rd_slice (B := 24) Tryd.underlying24 (by kernel_rfl) (by kernel_rfl) (rd_struct (fun x => (⟨x.1, x.2⟩ : S34)) (fun _ => rfl) Tryd.underlying34 rfl (by kernel_rfl) (rdf_cons rfl (by kernel_rfl) (rd_bool Tryd.underlying4) (rdf_one rfl (by kernel_rfl) (rd_string Tryd.underlying9))))) (rdf_one rfl (by kernel_rfl) (rd_int Tryd.underlying3))))))
theorem reads1 : Rd Tryd.prog 34 k34 (fun x => (True ∧ x.f1.size ≤ 140737488351232)) := (rd_struct (fun x => (⟨x.1, x.2⟩ : S34)) (fun _ => rfl) Tryd.underlying34 rfl (by kernel_rfl) (rdf_cons rfl (by kernel_rfl) (rd_bool Tryd.underlying4) (rdf_one rfl (by kernel_rfl) (rd_string Tryd.underlying9))))
theorem reads2 : Rd Tryd.prog 9 Kd.string (fun x => x.size ≤ 140737488351232) := (rd_string Tryd.underlying9)
theorem reads3 : Rd Tryd.prog 3 (Kd.int .i64) (fun x => (Lit.int .i64 x).wf = true) := (rd_int Tryd.underlying3)
set_option maxRecDepth 100000 in
theorem lifted (os : Os) (started : os.Started) (H : Type) (enc : TypeId × Value → H) :
    ReturnsInHanded {} Tryd.checked os 4 .any (fun w args => (Rows.ruleMoreSpec.pre enc Tryd.prog Tryd.f4 Rows.ruleMoreRow.domain false w args ∧ laidMetH Tryd.prog Rows.ruleMoreRow.laid w) ∧ sizedMet enc Tryd.prog Tryd.f4 (OpenSpec.ofChange Rows.ruleMoreSpec) false w args) (Rows.ruleMoreSpec.post enc Tryd.prog Tryd.f4 false true false false) := by
  refine returnsInHanded_of_change_and (C := Tryd.checked) (X := fun w _ => laidMetH Tryd.prog Rows.ruleMoreRow.laid w) (fun _ _ _ hh h => h.of_heap hh) own started (by kernel_rfl) Tryd.func4
    (ChangeSpec.witness_shaped (enc := enc) (C := Tryd.checked) (os := os) (X := fun w _ => laidMetH Tryd.prog Rows.ruleMoreRow.laid w) false (World.laidAll Tryd.prog os Rows.ruleMoreRow.laid) #[.agg #[.slice none 0 0, .slice none 0 0, .slice none 0 0, .int .i64 0], .agg #[.bool false, .string ByteArray.empty], .string ByteArray.empty, .int .i64 0] 8 (World.laidAll_os _ _ _)
      (World.shaped_of_ZipB (by kernel_rfl) (by kernel_rfl)) (by kernel_rfl) (by kernel_rfl) (by kernel_rfl)
      (by rw [MakeChecks.laidMetH_plain _ _ _ (by kernel_rfl)]; exact laidMet_laidAll _ (by kernel_rfl) (by kernel_rfl))) ?_
  intro W base args ds gs before hval0 hW hcnd hsz0 hL _
  have hsz : (DataW.weightsEach Tryd.prog (Tryd.f4.params.toList ++ Rows.ruleMoreSpec.plain.varTypes Tryd.prog) (ds ++ gs)).all (· ≤ reachBytes) = true := hsz0
  have hval : ∀ (j : Nat) t v, Tryd.f4.params[j]? = some t → args[j]? = some v → Value.okWide Tryd.prog W .any base t v := hval0
  have hW' := hW
  obtain ⟨p, q, hA0, hV, rfl, hfz, hnd⟩ := hW
  have hA : DataW.TrodAll enc Tryd.prog W 0 (fun _ => true) true Tryd.f4.params.toList args.toList ds p := hA0
  rw [Tryd.params4] at hA hval hsz
  obtain ⟨v0, vs0, d0, ds0, p0, q0, hargs, rfl, rfl, h0, r0⟩ := trodAll_cons hA
  obtain ⟨v1, vs1, d1, ds1, p1, q1, rfl, rfl, rfl, h1, r1⟩ := trodAll_cons r0
  obtain ⟨v2, vs2, d2, ds2, p2, q2, rfl, rfl, rfl, h2, r2⟩ := trodAll_cons r1
  obtain ⟨v3, vs3, d3, ds3, p3, q3, rfl, rfl, rfl, h3, r3⟩ := trodAll_cons r2
  obtain ⟨rfl, rfl, rfl⟩ := trodAll_nil r3
  obtain rfl : args = #[v0, v1, v2, v3] := by cases args; simp_all
  obtain ⟨rfl, rfl⟩ := trodVars_none hV
  have k0 := h0
  have lt0 : ∀ x ∈ p0, x.block < W.heap.size := by obtain ⟨m, hm⟩ := k0; exact DataW.trod_lt m _ _ _ hm
  obtain ⟨x0, hK0, g0⟩ := rd_arg reads0 hsz (j := 0) rfl rfl h0
  obtain ⟨A0_0, c0_0, A0_1, c0_1, A0_2, c0_2, e0, hc0_0, hr0_0, hc0_1, hr0_1, hc0_2, hr0_2⟩ := k26_open hK0
  obtain ⟨cs0, rfl, _⟩ := okWide_struct Tryd.underlying26 (hval 0 26 v0 rfl rfl)
  obtain rfl : cs0 = #[.slice A0_0 x0.f0.length c0_0, .slice A0_1 x0.f1.length c0_1, .slice A0_2 x0.f2.length c0_2, .int .i64 x0.f3] := Array.toList_inj.1 e0
  have k1 := h1
  have lt1 : ∀ x ∈ p1, x.block < W.heap.size := by obtain ⟨m, hm⟩ := k1; exact DataW.trod_lt m _ _ _ hm
  obtain ⟨x1, hK1, g1⟩ := rd_arg reads1 hsz (j := 1) rfl rfl h1
  have e1 := k34_open hK1
  obtain ⟨cs1, rfl, _⟩ := okWide_struct Tryd.underlying34 (hval 1 34 v1 rfl rfl)
  obtain rfl : cs1 = #[.bool x1.f0, .string x1.f1] := Array.toList_inj.1 e1
  have k2 := h2
  have lt2 : ∀ x ∈ p2, x.block < W.heap.size := by obtain ⟨m, hm⟩ := k2; exact DataW.trod_lt m _ _ _ hm
  obtain ⟨x2, e2, g2⟩ := rd_arg reads2 hsz (j := 2) rfl rfl h2
  obtain ⟨b2, rfl, rfl, rfl, y2⟩ := open_string Tryd.underlying9 (hval 2 9 v2 rfl rfl) h2
  have e2' : ([.string b2] : List Value) = [.string x2] := e2
  obtain rfl : b2 = x2 := by simpa using e2'
  have k3 := h3
  have lt3 : ∀ x ∈ p3, x.block < W.heap.size := by obtain ⟨m, hm⟩ := k3; exact DataW.trod_lt m _ _ _ hm
  obtain ⟨x3, e3, g3⟩ := rd_arg reads3 hsz (j := 3) rfl rfl h3
  obtain ⟨b3, rfl, rfl, rfl, y3⟩ := open_int Tryd.underlying3 (hval 3 3 v3 rfl rfl) h3
  have e3' : ([.int .i64 b3] : List Value) = [.int .i64 x3] := e3
  obtain rfl : b3 = x3 := by simpa using e3'
  clear hA0 hval0 hsz0 hsz
  obtain ⟨k, h⟩ := Pure.RuleMore x0 x1 _ _ g0 g1 g2 g3
  refine (estafettelaw18_RuleMore.calls k _ _ x0.f0 _ _ x0.f1 _ _ x0.f2 x0.f3 x1.f0 x1.f1 _ _ true rfl W hr0_0 hc0_0 hr0_1 hc0_1 hr0_2 hc0_2 h).mono fun e W' ⟨he, hd⟩ => ?_
  have bel := hd
  subst he
  exact ⟨_, rfl, _, _, _, [], _, [], hW', trodAll_mk1 (shut_bool Tryd.underlying4 _), (trodAll_cons_mk (Below.trod laidOut (by kernel_rfl) (of_decide_eq_true (by kernel_rfl)) k0 bel lt0) (trodAll_cons_mk (Below.trod laidOut (by kernel_rfl) (of_decide_eq_true (by kernel_rfl)) k1 bel lt1) (trodAll_cons_mk (Below.trod laidOut (by kernel_rfl) (of_decide_eq_true (by kernel_rfl)) k2 bel lt2) (trodAll_cons_mk (Below.trod laidOut (by kernel_rfl) (of_decide_eq_true (by kernel_rfl)) k3 bel lt3) trodAll_mk0)))), rfl, bel.frame _, fun h => by cases h⟩
theorem over : Rows.ruleMoreRow.holds Tryd.pinned (OpenSpec.ofChange Rows.ruleMoreSpec) :=
  OpenClaim.holds_of_wide 4 Tryd.f4 rfl rfl rfl rfl rfl rfl rfl ⟨rfl, rfl, rfl, rfl, rfl⟩ rfl rfl rfl rfl rfl (by kernel_rfl) Tryd.func4 (by kernel_rfl)
    (of_decide_eq_true (by kernel_rfl)) (by unfold Func.isWrapper; first | (rw [if_pos (by decide +kernel)]; kernel_rfl) | (rw [if_neg (by decide +kernel)]; exact ⟨rfl, rfl⟩))
    (fun os started H enc _ => lifted os started H enc)
/-- No parameter wants a stand-in; the program's own looks are off: what the card asks. -/
theorem plain (f : FuncId) (fn : Func) (hf : Tryd.pinned.checked.prog.funcNamed "estafette/estafettelaw18.RuleMore" = some f) (hfn : Tryd.pinned.checked.prog.funcs[f]? = some fn) :
    false = Tryd.pinned.checked.prog.looks [] ∧ ∀ (j : Nat) t, fn.params[j]? = some t → Tryd.pinned.checked.prog.wantsStandIn t = false := by
  obtain rfl : f = 4 := Option.some.inj ((show Tryd.prog.funcNamed "estafette/estafettelaw18.RuleMore" = some 4 by kernel_rfl).symm.trans hf) |>.symm
  obtain rfl : fn = Tryd.f4 := (Option.some.inj (Tryd.func4.symm.trans hfn)).symm
  exact ⟨by kernel_rfl, fun j t ht => by
    rw [Tryd.params4] at ht
    have hm : t ∈ [26, 34, 9, 3] := by simpa using Array.mem_of_getElem? ht
    have hall : ([26, 34, 9, 3].all fun u => !Tryd.prog.wantsStandIn u) = true := by kernel_rfl
    exact (show Tryd.prog.wantsStandIn t = false by simpa using List.all_eq_true.1 hall t hm)⟩
theorem card : Rows.RuleMoreCardSaid :=
  Claim7.holds_tied_plain_at .later [] _ _ _ _ over (fun _ h => by cases h) (by kernel_rfl) (fun _ h => by cases h) ruleMore_row_tie rfl ⟨rfl, rfl⟩ (by kernel_rfl) rfl plain (by kernel_rfl)
#print axioms card
end Go.Proofs.YtpkeplifflnemaaDoor.ruleMore
namespace Go.Proofs.YtpkeplifflnemaaDoor
/-- The card, under a short name, for the claim. -/
theorem ruleMore_holds : Rows.RuleMoreCardSaid := ruleMore.card
end Go.Proofs.YtpkeplifflnemaaDoor
