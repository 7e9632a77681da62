/- For every input: what the functions below return, or the statement that this text proves. Written by a program of this claim.s author (a turned print). -/
import Derived.Test.YtljhfaneepehcaaDoorRows
import Derived.Test.YtljhfaneepehcaaDoorPFx1
import Derived.Test.YtljhfaneepehcaaDoorPureBinCut
import Derived.Test.YtljhfaneepehcaaDoorArgs
import Derived.Test.YtljhfaneepehcaaDoorCards
import Derived.Test.YtljhfaneepehcaaDoorTie
import Derived.LaidMore
import Derived.Lay
import Derived.SevenTiedAt
import Derived.Stop.Joined
import Derived.WalkKit
import Derived.ProofKit
import Derived.OpenShut
import Derived.ShutString
import Derived.ChangeOld
import Derived.Below
import Derived.SizedLaws
namespace Go.Proofs.YtljhfaneepehcaaDoor.binCut
open Go.ChangeShapes Go.WideShapes Go.ChangeAt Go.RowKit Go.Proofs.YtljhfaneepehcaaDoor.PF Go.Proofs.YtljhfaneepehcaaDoor.Args Go.Proofs.YtljhfaneepehcaaDoorW.PrintWords Go.Proofs.YtljhfaneepehcaaDoorW.PrintLast
open Go.ChangeMaps (open_string shut_string)
set_option linter.unusedVariables false
set_option linter.unusedSimpArgs false
theorem own : ownKnob Tryd.prog.godebug = none := by kernel_rfl
theorem laidOut : laidOutB Tryd.prog = true := by kernel_rfl
theorem reads0 : Rd Tryd.prog 25 k25 (fun x => ((Lit.int .i64 x.f0).wf = true ∧ ((Lit.int .i64 x.f1).wf = true ∧ ((Lit.int .i64 x.f2).wf = true ∧ ((Lit.int .i64 x.f3).wf = true ∧ ((Lit.int .i64 x.f4).wf = true ∧ (x.f5.size ≤ 140737488351232 ∧ ((x.f6.length * 16 ≤ 140737488351232 ∧ ∀ e0 ∈ x.f6, e0.size ≤ 140737488351232) ∧ ((x.f7.length * 8 ≤ 140737488351232 ∧ ∀ e0 ∈ x.f7, (Lit.int .i64 e0).wf = true) ∧ (x.f8.length * 16 ≤ 140737488351232 ∧ ∀ e0 ∈ x.f8, e0.size ≤ 140737488351232)))))))))) := (rd_struct (fun x => (⟨x.1, x.2.1, x.2.2.1, x.2.2.2.1, x.2.2.2.2.1, x.2.2.2.2.2.1, x.2.2.2.2.2.2.1, x.2.2.2.2.2.2.2.1, x.2.2.2.2.2.2.2.2⟩ : S25)) (fun _ => rfl) Tryd.underlying25 rfl (by kernel_rfl) (rdf_cons rfl (by kernel_rfl) (rd_int Tryd.underlying3) (rdf_cons rfl (by kernel_rfl) (rd_int Tryd.underlying3) (rdf_cons rfl (by kernel_rfl) (rd_int Tryd.underlying3) (rdf_cons rfl (by kernel_rfl) (rd_int Tryd.underlying3) (rdf_cons rfl (by kernel_rfl) (rd_int Tryd.underlying3) (rdf_cons rfl (by kernel_rfl) (rd_string Tryd.underlying9) (rdf_cons rfl (by kernel_rfl) (rd_slice (B := 16) Tryd.underlying22 (by kernel_rfl) (by kernel_rfl) (rd_string Tryd.underlying9)) (rdf_cons rfl (by kernel_rfl) (rd_slice (B := 8) Tryd.underlying23 (by kernel_rfl) (by kernel_rfl) (rd_int Tryd.underlying3)) (rdf_one rfl (by kernel_rfl) (rd_slice (B := 16) Tryd.underlying22 (by kernel_rfl) (by kernel_rfl) (rd_string Tryd.underlying9))))))))))))
theorem reads1 : Rd Tryd.prog 37 (Kd.int .u16) (fun x => (Lit.int .u16 x).wf = true) := (rd_int Tryd.underlying37)
theorem reads2 : Rd Tryd.prog 28 (Kd.slice 5 (Kd.int .u8)) (fun x => (x.length * 1 ≤ 140737488351232 ∧ ∀ e0 ∈ x, (Lit.int .u8 e0).wf = true)) := (rd_slice (B := 1) Tryd.underlying28 (by kernel_rfl) (by kernel_rfl) (rd_int Tryd.underlying5))
set_option maxRecDepth 100000 in
theorem lifted (os : Os) (started : os.Started) (H : Type) (enc : TypeId × Value → H) :
    ReturnsInHanded {} Tryd.checked os 5 .any (fun w args => (Rows.binCutSpec.pre enc Tryd.prog Tryd.f5 Rows.binCutRow.domain false w args ∧ laidMetH Tryd.prog Rows.binCutRow.laid w) ∧ sizedMet enc Tryd.prog Tryd.f5 (OpenSpec.ofChange Rows.binCutSpec) false w args) (Rows.binCutSpec.post enc Tryd.prog Tryd.f5 false true false false) := by
  refine returnsInHanded_of_change_and (C := Tryd.checked) (X := fun w _ => laidMetH Tryd.prog Rows.binCutRow.laid w) (fun _ _ _ hh h => h.of_heap hh) own started (by kernel_rfl) Tryd.func5
    (ChangeSpec.witness_shaped (enc := enc) (C := Tryd.checked) (os := os) (X := fun w _ => laidMetH Tryd.prog Rows.binCutRow.laid w) false (World.laidAll Tryd.prog os Rows.binCutRow.laid) #[.agg #[.int .i64 0, .int .i64 0, .int .i64 0, .int .i64 0, .int .i64 0, .string ByteArray.empty, .slice none 0 0, .slice none 0 0, .slice none 0 0], .int .u16 0, .slice none 0 0] 8 (World.laidAll_os _ _ _)
      (World.shaped_of_ZipB (by kernel_rfl) (by kernel_rfl)) (by kernel_rfl) (by kernel_rfl) (by kernel_rfl)
      (by rw [MakeChecks.laidMetH_plain _ _ _ (by kernel_rfl)]; exact laidMet_laidAll _ (by kernel_rfl) (by kernel_rfl))) ?_
  intro W base args ds gs before hval0 hW hcnd hsz0 hL _
  have hsz : (DataW.weightsEach Tryd.prog (Tryd.f5.params.toList ++ Rows.binCutSpec.plain.varTypes Tryd.prog) (ds ++ gs)).all (· ≤ reachBytes) = true := hsz0
  have hval : ∀ (j : Nat) t v, Tryd.f5.params[j]? = some t → args[j]? = some v → Value.okWide Tryd.prog W .any base t v := hval0
  have hW' := hW
  obtain ⟨p, q, hA0, hV, rfl, hfz, hnd⟩ := hW
  have hA : DataW.TrodAll enc Tryd.prog W 0 (fun _ => true) true Tryd.f5.params.toList args.toList ds p := hA0
  rw [Tryd.params5] at hA hval hsz
  obtain ⟨v0, vs0, d0, ds0, p0, q0, hargs, rfl, rfl, h0, r0⟩ := trodAll_cons hA
  obtain ⟨v1, vs1, d1, ds1, p1, q1, rfl, rfl, rfl, h1, r1⟩ := trodAll_cons r0
  obtain ⟨v2, vs2, d2, ds2, p2, q2, rfl, rfl, rfl, h2, r2⟩ := trodAll_cons r1
  obtain ⟨rfl, rfl, rfl⟩ := trodAll_nil r2
  obtain rfl : args = #[v0, v1, v2] := by cases args; simp_all
  obtain ⟨rfl, rfl⟩ := trodVars_none hV
  have k0 := h0
  have lt0 : ∀ x ∈ p0, x.block < W.heap.size := by obtain ⟨m, hm⟩ := k0; exact DataW.trod_lt m _ _ _ hm
  obtain ⟨x0, hK0, g0⟩ := rd_arg reads0 hsz (j := 0) rfl rfl h0
  obtain ⟨A0_6, c0_6, A0_7, c0_7, A0_8, c0_8, e0, hc0_6, hr0_6, hc0_7, hr0_7, hc0_8, hr0_8⟩ := k25_open hK0
  obtain ⟨cs0, rfl, _⟩ := okWide_struct Tryd.underlying25 (hval 0 25 v0 rfl rfl)
  obtain rfl : cs0 = #[.int .i64 x0.f0, .int .i64 x0.f1, .int .i64 x0.f2, .int .i64 x0.f3, .int .i64 x0.f4, .string x0.f5, .slice A0_6 x0.f6.length c0_6, .slice A0_7 x0.f7.length c0_7, .slice A0_8 x0.f8.length c0_8] := Array.toList_inj.1 e0
  have k1 := h1
  have lt1 : ∀ x ∈ p1, x.block < W.heap.size := by obtain ⟨m, hm⟩ := k1; exact DataW.trod_lt m _ _ _ hm
  obtain ⟨x1, e1, g1⟩ := rd_arg reads1 hsz (j := 1) rfl rfl h1
  obtain ⟨b1, rfl, rfl, rfl, y1⟩ := open_int Tryd.underlying37 (hval 1 37 v1 rfl rfl) h1
  have e1' : ([.int .u16 b1] : List Value) = [.int .u16 x1] := e1
  obtain rfl : b1 = x1 := by simpa using e1'
  have k2 := h2
  have lt2 : ∀ x ∈ p2, x.block < W.heap.size := by obtain ⟨m, hm⟩ := k2; exact DataW.trod_lt m _ _ _ hm
  obtain ⟨x2, ⟨A2, c2, e2, hc2, hr2⟩, g2⟩ := rd_arg reads2 hsz (j := 2) rfl rfl h2
  obtain ⟨a2, len2, cap2, rfl⟩ := okWide_slice Tryd.underlying28 (hval 2 28 v2 rfl rfl)
  simp [Value.cells] at e2
  obtain ⟨rfl, rfl, rfl⟩ := e2
  clear hA0 hval0 hsz0 hsz
  obtain ⟨k, h⟩ := Pure.BinCut x0 _ x2 g0 g1 g2
  refine (estafettelaw12_BinCut.calls k x0.f0 x0.f1 x0.f2 x0.f3 x0.f4 x0.f5 _ _ x0.f6 _ _ x0.f7 _ _ x0.f8 _ _ _ x2 true rfl W hr0_6 hc0_6 hr0_7 hc0_7 hr0_8 hc0_8 hr2 hc2 h).mono fun e W' ⟨he, hd⟩ => ?_
  have bel := hd
  subst he
  exact ⟨_, rfl, _, _, _, [], _, [], hW', trodAll_mk1 (shut_bool Tryd.underlying4 _), (trodAll_cons_mk (Below.trod laidOut (by kernel_rfl) (of_decide_eq_true (by kernel_rfl)) k0 bel lt0) (trodAll_cons_mk (Below.trod laidOut (by kernel_rfl) (of_decide_eq_true (by kernel_rfl)) k1 bel lt1) (trodAll_cons_mk (Below.trod laidOut (by kernel_rfl) (of_decide_eq_true (by kernel_rfl)) k2 bel lt2) trodAll_mk0))), rfl, bel.frame _, fun h => by cases h⟩
theorem over : Rows.binCutRow.holds Tryd.pinned (OpenSpec.ofChange Rows.binCutSpec) :=
  OpenClaim.holds_of_wide 5 Tryd.f5 rfl rfl rfl rfl rfl rfl rfl ⟨rfl, rfl, rfl, rfl, rfl⟩ rfl rfl rfl rfl rfl (by kernel_rfl) Tryd.func5 (by kernel_rfl)
    (of_decide_eq_true (by kernel_rfl)) (by unfold Func.isWrapper; first | (rw [if_pos (by decide +kernel)]; kernel_rfl) | (rw [if_neg (by decide +kernel)]; exact ⟨rfl, rfl⟩))
    (fun os started H enc _ => lifted os started H enc)
/-- No parameter wants a stand-in; the program's own looks are off: what the card asks. -/
theorem plain (f : FuncId) (fn : Func) (hf : Tryd.pinned.checked.prog.funcNamed "estafette/estafettelaw12.BinCut" = some f) (hfn : Tryd.pinned.checked.prog.funcs[f]? = some fn) :
    false = Tryd.pinned.checked.prog.looks [] ∧ ∀ (j : Nat) t, fn.params[j]? = some t → Tryd.pinned.checked.prog.wantsStandIn t = false := by
  obtain rfl : f = 5 := Option.some.inj ((show Tryd.prog.funcNamed "estafette/estafettelaw12.BinCut" = some 5 by kernel_rfl).symm.trans hf) |>.symm
  obtain rfl : fn = Tryd.f5 := (Option.some.inj (Tryd.func5.symm.trans hfn)).symm
  exact ⟨by kernel_rfl, fun j t ht => by
    rw [Tryd.params5] at ht
    have hm : t ∈ [25, 37, 28] := by simpa using Array.mem_of_getElem? ht
    have hall : ([25, 37, 28].all fun u => !Tryd.prog.wantsStandIn u) = true := by kernel_rfl
    exact (show Tryd.prog.wantsStandIn t = false by simpa using List.all_eq_true.1 hall t hm)⟩
theorem card : Rows.BinCutCardSaid :=
  Claim7.holds_tied_plain_at .later [] _ _ _ _ over (fun _ h => by cases h) (by kernel_rfl) (fun _ h => by cases h) binCut_row_tie rfl ⟨rfl, rfl⟩ (by kernel_rfl) rfl plain (by kernel_rfl)
#print axioms card
end Go.Proofs.YtljhfaneepehcaaDoor.binCut
namespace Go.Proofs.YtljhfaneepehcaaDoor
/-- The card, under a short name, for the claim. -/
theorem binCut_holds : Rows.BinCutCardSaid := binCut.card
end Go.Proofs.YtljhfaneepehcaaDoor
