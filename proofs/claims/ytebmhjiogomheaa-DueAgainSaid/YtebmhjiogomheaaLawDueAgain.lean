/- The row of DueAgain: for every input the law returns true, and its input reads as it did. -/
import Derived.Test.YtebmhjiogomheaaRows
import Derived.Test.YtebmhjiogomheaaDueAgain
import Derived.Test.YtebmhjiogomheaaArgs
import Derived.WalkKit
import Derived.ProofKit
import Derived.OpenShut
import Derived.ShutString
import Derived.ChangeOld
import Derived.Below
import Derived.SizedLaws
namespace Go.Proofs.Ytebmhjiogomheaa.dueAgain
open Go.ChangeShapes Go.WideShapes Go.ChangeAt Go.RowKit Go.Proofs.Ytebmhjiogomheaa.Args Go.Proofs.YtebmhjiogomheaaW.PrintWords Go.Proofs.YtebmhjiogomheaaW.PrintLast Go.Proofs.Ytebmhjiogomheaa
open Go.ChangeMaps (open_string shut_string)
set_option linter.unusedVariables false
set_option linter.unusedSimpArgs false
theorem own : ownKnob Try.prog.godebug = none := by kernel_rfl
theorem laidOut : laidOutB Try.prog = true := by kernel_rfl
theorem reads0 : Rd Try.prog 3 (Kd.int .i64) (fun x => (Lit.int .i64 x).wf = true) := (rd_int Try.underlying3)
theorem reads1 : Rd Try.prog 27 (Kd.slice 3 (Kd.int .i64)) (fun x => (x.length * 8 ≤ 140737488351232 ∧ ∀ e0 ∈ x, (Lit.int .i64 e0).wf = true)) := (rd_slice (B := 8) Try.underlying27 (by kernel_rfl) (by kernel_rfl) (rd_int Try.underlying3))
theorem reads2 : Rd Try.prog 3 (Kd.int .i64) (fun x => (Lit.int .i64 x).wf = true) := (rd_int Try.underlying3)
set_option maxRecDepth 100000 in
theorem lifted (os : Os) (started : os.Started) (H : Type) (enc : TypeId × Value → H) :
    ReturnsInHanded {} Try.checked os 6 .any (Rows.dueAgainSpec.pre6 enc Try.prog Try.f6 Rows.dueAgainRow.domain false) (Rows.dueAgainSpec.post enc Try.prog Try.f6 false true false false) := by
  refine returnsInHanded_of_change_sized (C := Try.checked) own started (by kernel_rfl) Try.func6
    (ChangeSpec.witness6 (enc := enc) (C := Try.checked) false ⟨#[], #[.int .i64 0, .slice none 0 0, .int .i64 0], []⟩ 8 (by kernel_rfl) (by kernel_rfl) (by kernel_rfl) (by kernel_rfl)) ?_
  intro W base args ds gs before hval0 hW hcnd hsz0 _
  have hsz : (DataW.weightsEach Try.prog (Try.f6.params.toList ++ Rows.dueAgainSpec.plain.varTypes Try.prog) (ds ++ gs)).all (· ≤ reachBytes) = true := hsz0
  have hval : ∀ (j : Nat) t v, Try.f6.params[j]? = some t → args[j]? = some v → Value.okWide Try.prog W .any base t v := hval0
  have hW' := hW
  obtain ⟨p, q, hA0, hV, rfl, hfz, hnd⟩ := hW
  have hA : DataW.TrodAll enc Try.prog W 0 (fun _ => true) true Try.f6.params.toList args.toList ds p := hA0
  rw [Try.params6] at hA hval hsz
  obtain ⟨v0, vs0, d0, ds0, p0, q0, hargs, rfl, rfl, h0, r0⟩ := trodAll_cons hA
  obtain ⟨v1, vs1, d1, ds1, p1, q1, rfl, rfl, rfl, h1, r1⟩ := trodAll_cons r0
  obtain ⟨v2, vs2, d2, ds2, p2, q2, rfl, rfl, rfl, h2, r2⟩ := trodAll_cons r1
  obtain ⟨rfl, rfl, rfl⟩ := trodAll_nil r2
  obtain rfl : args = #[v0, v1, v2] := by cases args; simp_all
  obtain ⟨rfl, rfl⟩ := trodVars_none hV
  have k0 := h0
  have lt0 : ∀ x ∈ p0, x.block < W.heap.size := by obtain ⟨m, hm⟩ := k0; exact DataW.trod_lt m _ _ _ hm
  obtain ⟨x0, e0, g0⟩ := rd_arg reads0 hsz (j := 0) rfl rfl h0
  obtain ⟨b0, rfl, rfl, rfl, y0⟩ := open_int Try.underlying3 (hval 0 3 v0 rfl rfl) h0
  have e0' : ([.int .i64 b0] : List Value) = [.int .i64 x0] := e0
  obtain rfl : b0 = x0 := by simpa using e0'
  have k1 := h1
  have lt1 : ∀ x ∈ p1, x.block < W.heap.size := by obtain ⟨m, hm⟩ := k1; exact DataW.trod_lt m _ _ _ hm
  obtain ⟨x1, ⟨A1, c1, e1, hc1, hr1⟩, g1⟩ := rd_arg reads1 hsz (j := 1) rfl rfl h1
  obtain ⟨a1, len1, cap1, rfl⟩ := okWide_slice Try.underlying27 (hval 1 27 v1 rfl rfl)
  simp [Value.cells] at e1
  obtain ⟨rfl, rfl, rfl⟩ := e1
  have k2 := h2
  have lt2 : ∀ x ∈ p2, x.block < W.heap.size := by obtain ⟨m, hm⟩ := k2; exact DataW.trod_lt m _ _ _ hm
  obtain ⟨x2, e2, g2⟩ := rd_arg reads2 hsz (j := 2) rfl rfl h2
  obtain ⟨b2, rfl, rfl, rfl, y2⟩ := open_int Try.underlying3 (hval 2 3 v2 rfl rfl) h2
  have e2' : ([.int .i64 b2] : List Value) = [.int .i64 x2] := e2
  obtain rfl : b2 = x2 := by simpa using e2'
  clear hA0 hval0 hsz0 hsz
  refine (Hand.DueAgain_calls W _ _ _ x1 _ hr1 hc1).mono fun e W' ⟨he, bel⟩ => ?_
  subst he
  exact ⟨_, rfl, _, _, _, [], _, [], hW', trodAll_mk1 (shut_bool Try.underlying4 _), (trodAll_cons_mk (Below.trod laidOut (by kernel_rfl) (of_decide_eq_true (by kernel_rfl)) k0 bel lt0) (trodAll_cons_mk (Below.trod laidOut (by kernel_rfl) (of_decide_eq_true (by kernel_rfl)) k1 bel lt1) (trodAll_cons_mk (Below.trod laidOut (by kernel_rfl) (of_decide_eq_true (by kernel_rfl)) k2 bel lt2) trodAll_mk0))), rfl, bel.frame _, fun h => by cases h⟩
theorem over : Rows.dueAgainRow.holds Try.pinned (OpenSpec.ofChange Rows.dueAgainSpec) :=
  OpenClaim.holds_of_wide 6 Try.f6 rfl rfl rfl rfl rfl rfl rfl ⟨rfl, rfl, rfl, rfl, rfl⟩ rfl rfl rfl rfl rfl (by kernel_rfl) Try.func6 (by kernel_rfl)
    (of_decide_eq_true (by kernel_rfl)) (by unfold Func.isWrapper; first | (rw [if_pos (by decide +kernel)]; kernel_rfl) | (rw [if_neg (by decide +kernel)]; exact ⟨rfl, rfl⟩))
    (fun os started H enc _ => lifted os started H enc)
theorem proved : Rows.DueAgainSaid := over
#print axioms proved
end Go.Proofs.Ytebmhjiogomheaa.dueAgain
namespace Go.Proofs.Ytebmhjiogomheaa
/-- The row, under a short name, for the claim. -/
theorem dueAgain_holds : Rows.DueAgainSaid := dueAgain.proved
end Go.Proofs.Ytebmhjiogomheaa
