/- For every input: what the functions below return, or the statement that this text proves. Written by a program of this claim.s author (a turned print). -/
import Derived.Test.YtjkaicfakccmiaaDoorRows
import Derived.Test.YtjkaicfakccmiaaDoorPCx1
import Derived.Test.YtjkaicfakccmiaaDoorPureAliasNone
import Derived.Test.YtjkaicfakccmiaaDoorArgs
import Derived.Test.YtjkaicfakccmiaaDoorCards
import Derived.Test.YtjkaicfakccmiaaDoorTie
import Derived.LaidMore
import Derived.Lay
import Derived.SevenTiedAt
import Derived.Stop.Joined
import Derived.WalkKit
import Derived.ProofKit
import Derived.OpenShut
import Derived.ShutString
import Derived.ChangeOld
import Derived.Below
import Derived.SizedLaws
namespace Go.Proofs.YtjkaicfakccmiaaDoor.aliasNone
open Go.ChangeShapes Go.WideShapes Go.ChangeAt Go.RowKit Go.Proofs.YtjkaicfakccmiaaDoor.PC Go.Proofs.YtjkaicfakccmiaaDoor.Args Go.Proofs.YtjkaicfakccmiaaDoorW.PrintWords Go.Proofs.YtjkaicfakccmiaaDoorW.PrintLast
open Go.ChangeMaps (open_string shut_string)
set_option linter.unusedVariables false
set_option linter.unusedSimpArgs false
theorem own : ownKnob Tryd.prog.godebug = none := by kernel_rfl
theorem laidOut : laidOutB Tryd.prog = true := by kernel_rfl
theorem reads0 : Rd Tryd.prog 29 (Kd.slice 9 Kd.string) (fun x => (x.length * 16 ≤ 140737488351232 ∧ ∀ e0 ∈ x, e0.size ≤ 140737488351232)) := (rd_slice (B := 16) Tryd.underlying29 (by kernel_rfl) (by kernel_rfl) (rd_string Tryd.underlying9))
theorem reads1 : Rd Tryd.prog 26 k26 (fun x => ((x.f0.length * 40 ≤ 140737488351232 ∧ ∀ e0 ∈ x.f0, (e0.f0.size ≤ 140737488351232 ∧ (e0.f1.length * 16 ≤ 140737488351232 ∧ ∀ e1 ∈ e0.f1, e1.size ≤ 140737488351232))) ∧ ((x.f1.length * 32 ≤ 140737488351232 ∧ ∀ e0 ∈ x.f1, (e0.f0.size ≤ 140737488351232 ∧ e0.f1.size ≤ 140737488351232)) ∧ ((x.f2.length * 24 ≤ 140737488351232 ∧ ∀ e0 ∈ x.f2, (True ∧ e0.f1.size ≤ 140737488351232)) ∧ (Lit.int .i64 x.f3).wf = true)))) := (rd_struct (fun x => (⟨x.1, x.2.1, x.2.2.1, x.2.2.2⟩ : S26)) (fun _ => rfl) Tryd.underlying26 rfl (by kernel_rfl) (rdf_cons rfl (by kernel_rfl) (rd_slice (B := 40) Tryd.underlying22 (by kernel_rfl) (by kernel_rfl) (rd_struct (fun x => (⟨x.1, x.2⟩ : S31)) (fun _ => rfl) Tryd.underlying31 rfl (by kernel_rfl) (rdf_cons rfl (by kernel_rfl) (rd_string Tryd.underlying9) (rdf_one rfl (by kernel_rfl) (rd_slice (B := 16) Tryd.underlying29 (by kernel_rfl) (by kernel_rfl) (rd_string Tryd.underlying9)))))) (rdf_cons rfl (by kernel_rfl) (rd_slice (B := 32) Tryd.underlying23 (by kernel_rfl) (by kernel_rfl) (rd_struct (fun x => (⟨x.1, x.2⟩ : S96)) (fun _ => rfl) Tryd.underlying96 rfl (by kernel_rfl) (rdf_cons rfl (by kernel_rfl) (rd_string Tryd.underlying9) (rdf_one rfl (by kernel_rfl) (rd_string Tryd.underlying9))))) (rdf_cons rfl (by kernel_rfl) (rd_slice (B := 24) Tryd.underlying24 (by kernel_rfl) (by kernel_rfl) (rd_struct (fun x => (⟨x.1, x.2⟩ : S98)) (fun _ => rfl) Tryd.underlying98 rfl (by kernel_rfl) (rdf_cons rfl (by kernel_rfl) (rd_bool Tryd.underlying4) (rdf_one rfl (by kernel_rfl) (rd_string Tryd.underlying9))))) (rdf_one rfl (by kernel_rfl) (rd_int Tryd.underlying3))))))
set_option maxRecDepth 100000 in
theorem lifted (os : Os) (started : os.Started) (H : Type) (enc : TypeId × Value → H) :
    ReturnsInHanded {} Tryd.checked os 5 .any (fun w args => (Rows.aliasNoneSpec.pre enc Tryd.prog Tryd.f5 Rows.aliasNoneRow.domain false w args ∧ laidMetH Tryd.prog Rows.aliasNoneRow.laid w) ∧ sizedMet enc Tryd.prog Tryd.f5 (OpenSpec.ofChange Rows.aliasNoneSpec) false w args) (Rows.aliasNoneSpec.post enc Tryd.prog Tryd.f5 false true false false) := by
  refine returnsInHanded_of_change_and (C := Tryd.checked) (X := fun w _ => laidMetH Tryd.prog Rows.aliasNoneRow.laid w) (fun _ _ _ hh h => h.of_heap hh) own started (by kernel_rfl) Tryd.func5
    (ChangeSpec.witness_shaped (enc := enc) (C := Tryd.checked) (os := os) (X := fun w _ => laidMetH Tryd.prog Rows.aliasNoneRow.laid w) false (World.laidAll Tryd.prog os Rows.aliasNoneRow.laid) #[.slice none 0 0, .agg #[.slice none 0 0, .slice none 0 0, .slice none 0 0, .int .i64 0]] 8 (World.laidAll_os _ _ _)
      (World.shaped_of_ZipB (by kernel_rfl) (by kernel_rfl)) (by kernel_rfl) (by kernel_rfl) (by kernel_rfl)
      (by rw [MakeChecks.laidMetH_plain _ _ _ (by kernel_rfl)]; exact laidMet_laidAll _ (by kernel_rfl) (by kernel_rfl))) ?_
  intro W base args ds gs before hval0 hW hcnd hsz0 hL _
  have hsz : (DataW.weightsEach Tryd.prog (Tryd.f5.params.toList ++ Rows.aliasNoneSpec.plain.varTypes Tryd.prog) (ds ++ gs)).all (· ≤ reachBytes) = true := hsz0
  have hval : ∀ (j : Nat) t v, Tryd.f5.params[j]? = some t → args[j]? = some v → Value.okWide Tryd.prog W .any base t v := hval0
  have hW' := hW
  obtain ⟨p, q, hA0, hV, rfl, hfz, hnd⟩ := hW
  have hA : DataW.TrodAll enc Tryd.prog W 0 (fun _ => true) true Tryd.f5.params.toList args.toList ds p := hA0
  rw [Tryd.params5] at hA hval hsz
  obtain ⟨v0, vs0, d0, ds0, p0, q0, hargs, rfl, rfl, h0, r0⟩ := trodAll_cons hA
  obtain ⟨v1, vs1, d1, ds1, p1, q1, rfl, rfl, rfl, h1, r1⟩ := trodAll_cons r0
  obtain ⟨rfl, rfl, rfl⟩ := trodAll_nil r1
  obtain rfl : args = #[v0, v1] := by cases args; simp_all
  obtain ⟨rfl, rfl⟩ := trodVars_none hV
  have k0 := h0
  have lt0 : ∀ x ∈ p0, x.block < W.heap.size := by obtain ⟨m, hm⟩ := k0; exact DataW.trod_lt m _ _ _ hm
  obtain ⟨x0, ⟨A0, c0, e0, hc0, hr0⟩, g0⟩ := rd_arg reads0 hsz (j := 0) rfl rfl h0
  obtain ⟨a0, len0, cap0, rfl⟩ := okWide_slice Tryd.underlying29 (hval 0 29 v0 rfl rfl)
  simp [Value.cells] at e0
  obtain ⟨rfl, rfl, rfl⟩ := e0
  have k1 := h1
  have lt1 : ∀ x ∈ p1, x.block < W.heap.size := by obtain ⟨m, hm⟩ := k1; exact DataW.trod_lt m _ _ _ hm
  obtain ⟨x1, hK1, g1⟩ := rd_arg reads1 hsz (j := 1) rfl rfl h1
  obtain ⟨A1_0, c1_0, A1_1, c1_1, A1_2, c1_2, e1, hc1_0, hr1_0, hc1_1, hr1_1, hc1_2, hr1_2⟩ := k26_open hK1
  obtain ⟨cs1, rfl, _⟩ := okWide_struct Tryd.underlying26 (hval 1 26 v1 rfl rfl)
  obtain rfl : cs1 = #[.slice A1_0 x1.f0.length c1_0, .slice A1_1 x1.f1.length c1_1, .slice A1_2 x1.f2.length c1_2, .int .i64 x1.f3] := Array.toList_inj.1 e1
  clear hA0 hval0 hsz0 hsz
  obtain ⟨k, h⟩ := Pure.AliasNone x0 x1 g0 g1
  refine (estafettelaw16_AliasNone.calls k _ _ x0 _ _ x1.f0 _ _ x1.f1 _ _ x1.f2 x1.f3 true W hr0 hc0 hr1_0 hc1_0 hr1_1 hc1_1 hr1_2 hc1_2 h).mono fun e W' ⟨he, hd⟩ => ?_
  have bel := hd
  subst he
  exact ⟨_, rfl, _, _, _, [], _, [], hW', trodAll_mk1 (shut_bool Tryd.underlying4 _), (trodAll_cons_mk (Below.trod laidOut (by kernel_rfl) (of_decide_eq_true (by kernel_rfl)) k0 bel lt0) (trodAll_cons_mk (Below.trod laidOut (by kernel_rfl) (of_decide_eq_true (by kernel_rfl)) k1 bel lt1) trodAll_mk0)), rfl, bel.frame _, fun h => by cases h⟩
theorem over : Rows.aliasNoneRow.holds Tryd.pinned (OpenSpec.ofChange Rows.aliasNoneSpec) :=
  OpenClaim.holds_of_wide 5 Tryd.f5 rfl rfl rfl rfl rfl rfl rfl ⟨rfl, rfl, rfl, rfl, rfl⟩ rfl rfl rfl rfl rfl (by kernel_rfl) Tryd.func5 (by kernel_rfl)
    (of_decide_eq_true (by kernel_rfl)) (by unfold Func.isWrapper; first | (rw [if_pos (by decide +kernel)]; kernel_rfl) | (rw [if_neg (by decide +kernel)]; exact ⟨rfl, rfl⟩))
    (fun os started H enc _ => lifted os started H enc)
/-- No parameter wants a stand-in; the program's own looks are off: what the card asks. -/
theorem plain (f : FuncId) (fn : Func) (hf : Tryd.pinned.checked.prog.funcNamed "estafette/estafettelaw16.AliasNone" = some f) (hfn : Tryd.pinned.checked.prog.funcs[f]? = some fn) :
    false = Tryd.pinned.checked.prog.looks [] ∧ ∀ (j : Nat) t, fn.params[j]? = some t → Tryd.pinned.checked.prog.wantsStandIn t = false := by
  obtain rfl : f = 5 := Option.some.inj ((show Tryd.prog.funcNamed "estafette/estafettelaw16.AliasNone" = some 5 by kernel_rfl).symm.trans hf) |>.symm
  obtain rfl : fn = Tryd.f5 := (Option.some.inj (Tryd.func5.symm.trans hfn)).symm
  exact ⟨by kernel_rfl, fun j t ht => by
    rw [Tryd.params5] at ht
    have hm : t ∈ [29, 26] := by simpa using Array.mem_of_getElem? ht
    have hall : ([29, 26].all fun u => !Tryd.prog.wantsStandIn u) = true := by kernel_rfl
    exact (show Tryd.prog.wantsStandIn t = false by simpa using List.all_eq_true.1 hall t hm)⟩
theorem card : Rows.AliasNoneCardSaid :=
  Claim7.holds_tied_plain_at .later [] _ _ _ _ over (fun _ h => by cases h) (by kernel_rfl) (fun _ h => by cases h) aliasNone_row_tie rfl ⟨rfl, rfl⟩ (by kernel_rfl) rfl plain (by kernel_rfl)
#print axioms card
end Go.Proofs.YtjkaicfakccmiaaDoor.aliasNone
namespace Go.Proofs.YtjkaicfakccmiaaDoor
/-- The card, under a short name, for the claim. -/
theorem aliasNone_holds : Rows.AliasNoneCardSaid := aliasNone.card
end Go.Proofs.YtjkaicfakccmiaaDoor
