/- The row of LogCrash: for every input the law returns true, and its input reads as it did. -/
import Derived.Test.YtipclnniaenciaaRows
import Derived.Test.YtipclnniaenciaaLogCrash
import Derived.Test.YtipclnniaenciaaArgs
import Derived.WalkKit
import Derived.ProofKit
import Derived.OpenShut
import Derived.ShutString
import Derived.ChangeOld
import Derived.Below
import Derived.SizedLaws
namespace Go.Proofs.Ytipclnniaenciaa.logCrash
open Go.ChangeShapes Go.WideShapes Go.ChangeAt Go.RowKit Go.Proofs.Ytipclnniaenciaa.Args Go.Proofs.YtipclnniaenciaaW.PrintWords Go.Proofs.YtipclnniaenciaaW.PrintLast Go.Proofs.Ytipclnniaenciaa
open Go.ChangeMaps (open_string shut_string)
set_option linter.unusedVariables false
set_option linter.unusedSimpArgs false
theorem own : ownKnob Try.prog.godebug = none := by kernel_rfl
theorem laidOut : laidOutB Try.prog = true := by kernel_rfl
theorem reads0 : Rd Try.prog 48 (Kd.slice 51 Hand.kA) (fun x => (x.length * 40 ≤ 140737488351232 ∧ ∀ e0 ∈ x, ((e0.1.length * 1 ≤ 140737488351232 ∧ ∀ e9 ∈ e0.1, (Lit.int .u8 e9).wf = true) ∧ (True ∧ (Lit.int .i64 e0.2.2).wf = true)))) := (rd_slice (B := 40) Try.underlying48 (by kernel_rfl) (by kernel_rfl) Hand.actRd)
theorem reads1 : Rd Try.prog 3 (Kd.int .i64) (fun x => (Lit.int .i64 x).wf = true) := (rd_int Try.underlying3)
theorem reads2 : Rd Try.prog 3 (Kd.int .i64) (fun x => (Lit.int .i64 x).wf = true) := (rd_int Try.underlying3)
theorem reads3 : Rd Try.prog 3 (Kd.int .i64) (fun x => (Lit.int .i64 x).wf = true) := (rd_int Try.underlying3)
theorem reads4 : Rd Try.prog 22 (Kd.slice 5 (Kd.int .u8)) (fun x => (x.length * 1 ≤ 140737488351232 ∧ ∀ e0 ∈ x, (Lit.int .u8 e0).wf = true)) := (rd_slice (B := 1) Try.underlying22 (by kernel_rfl) (by kernel_rfl) (rd_int Try.underlying5))
set_option maxRecDepth 100000 in
theorem lifted (os : Os) (started : os.Started) (H : Type) (enc : TypeId × Value → H) :
    ReturnsInHanded {} Try.checked os 7 .any (Rows.logCrashSpec.pre6 enc Try.prog Try.f7 Rows.logCrashRow.domain false) (Rows.logCrashSpec.post enc Try.prog Try.f7 false true false false) := by
  refine returnsInHanded_of_change_sized (C := Try.checked) own started (by kernel_rfl) Try.func7
    (ChangeSpec.witness6 (enc := enc) (C := Try.checked) false ⟨#[], #[.slice none 0 0, .int .i64 0, .int .i64 0, .int .i64 0, .slice none 0 0], []⟩ 8 (by kernel_rfl) (by kernel_rfl) (by kernel_rfl) (by kernel_rfl)) ?_
  intro W base args ds gs before hval0 hW hcnd hsz0 _
  have hsz : (DataW.weightsEach Try.prog (Try.f7.params.toList ++ Rows.logCrashSpec.plain.varTypes Try.prog) (ds ++ gs)).all (· ≤ reachBytes) = true := hsz0
  have hval : ∀ (j : Nat) t v, Try.f7.params[j]? = some t → args[j]? = some v → Value.okWide Try.prog W .any base t v := hval0
  have hW' := hW
  obtain ⟨p, q, hA0, hV, rfl, hfz, hnd⟩ := hW
  have hA : DataW.TrodAll enc Try.prog W 0 (fun _ => true) true Try.f7.params.toList args.toList ds p := hA0
  rw [Try.params7] at hA hval hsz
  obtain ⟨v0, vs0, d0, ds0, p0, q0, hargs, rfl, rfl, h0, r0⟩ := trodAll_cons hA
  obtain ⟨v1, vs1, d1, ds1, p1, q1, rfl, rfl, rfl, h1, r1⟩ := trodAll_cons r0
  obtain ⟨v2, vs2, d2, ds2, p2, q2, rfl, rfl, rfl, h2, r2⟩ := trodAll_cons r1
  obtain ⟨v3, vs3, d3, ds3, p3, q3, rfl, rfl, rfl, h3, r3⟩ := trodAll_cons r2
  obtain ⟨v4, vs4, d4, ds4, p4, q4, rfl, rfl, rfl, h4, r4⟩ := trodAll_cons r3
  obtain ⟨rfl, rfl, rfl⟩ := trodAll_nil r4
  obtain rfl : args = #[v0, v1, v2, v3, v4] := by cases args; simp_all
  obtain ⟨rfl, rfl⟩ := trodVars_none hV
  have k0 := h0
  have lt0 : ∀ x ∈ p0, x.block < W.heap.size := by obtain ⟨m, hm⟩ := k0; exact DataW.trod_lt m _ _ _ hm
  obtain ⟨x0, ⟨A0, c0, e0, hc0, hr0⟩, g0⟩ := rd_arg reads0 hsz (j := 0) rfl rfl h0
  obtain ⟨a0, len0, cap0, rfl⟩ := okWide_slice Try.underlying48 (hval 0 48 v0 rfl rfl)
  simp [Value.cells] at e0
  obtain ⟨rfl, rfl, rfl⟩ := e0
  have k1 := h1
  have lt1 : ∀ x ∈ p1, x.block < W.heap.size := by obtain ⟨m, hm⟩ := k1; exact DataW.trod_lt m _ _ _ hm
  obtain ⟨x1, e1, g1⟩ := rd_arg reads1 hsz (j := 1) rfl rfl h1
  obtain ⟨b1, rfl, rfl, rfl, y1⟩ := open_int Try.underlying3 (hval 1 3 v1 rfl rfl) h1
  have e1' : ([.int .i64 b1] : List Value) = [.int .i64 x1] := e1
  obtain rfl : b1 = x1 := by simpa using e1'
  have k2 := h2
  have lt2 : ∀ x ∈ p2, x.block < W.heap.size := by obtain ⟨m, hm⟩ := k2; exact DataW.trod_lt m _ _ _ hm
  obtain ⟨x2, e2, g2⟩ := rd_arg reads2 hsz (j := 2) rfl rfl h2
  obtain ⟨b2, rfl, rfl, rfl, y2⟩ := open_int Try.underlying3 (hval 2 3 v2 rfl rfl) h2
  have e2' : ([.int .i64 b2] : List Value) = [.int .i64 x2] := e2
  obtain rfl : b2 = x2 := by simpa using e2'
  have k3 := h3
  have lt3 : ∀ x ∈ p3, x.block < W.heap.size := by obtain ⟨m, hm⟩ := k3; exact DataW.trod_lt m _ _ _ hm
  obtain ⟨x3, e3, g3⟩ := rd_arg reads3 hsz (j := 3) rfl rfl h3
  obtain ⟨b3, rfl, rfl, rfl, y3⟩ := open_int Try.underlying3 (hval 3 3 v3 rfl rfl) h3
  have e3' : ([.int .i64 b3] : List Value) = [.int .i64 x3] := e3
  obtain rfl : b3 = x3 := by simpa using e3'
  have k4 := h4
  have lt4 : ∀ x ∈ p4, x.block < W.heap.size := by obtain ⟨m, hm⟩ := k4; exact DataW.trod_lt m _ _ _ hm
  obtain ⟨x4, ⟨A4, c4, e4, hc4, hr4⟩, g4⟩ := rd_arg reads4 hsz (j := 4) rfl rfl h4
  obtain ⟨a4, len4, cap4, rfl⟩ := okWide_slice Try.underlying22 (hval 4 22 v4 rfl rfl)
  simp [Value.cells] at e4
  obtain ⟨rfl, rfl, rfl⟩ := e4
  clear hA0 hval0 hsz0 hsz
  refine (Hand.LogCrash_row W _ _ _ _ x0 _ _ _ _ hr0 hc0 g0 g1 hr4 hc4 g4).mono fun e W' ⟨he, bel⟩ => ?_
  subst he
  exact ⟨_, rfl, _, _, _, [], _, [], hW', trodAll_mk1 (shut_bool Try.underlying4 _), (trodAll_cons_mk (Below.trod laidOut (by kernel_rfl) (of_decide_eq_true (by kernel_rfl)) k0 bel lt0) (trodAll_cons_mk (Below.trod laidOut (by kernel_rfl) (of_decide_eq_true (by kernel_rfl)) k1 bel lt1) (trodAll_cons_mk (Below.trod laidOut (by kernel_rfl) (of_decide_eq_true (by kernel_rfl)) k2 bel lt2) (trodAll_cons_mk (Below.trod laidOut (by kernel_rfl) (of_decide_eq_true (by kernel_rfl)) k3 bel lt3) (trodAll_cons_mk (Below.trod laidOut (by kernel_rfl) (of_decide_eq_true (by kernel_rfl)) k4 bel lt4) trodAll_mk0))))), rfl, bel.frame _, fun h => by cases h⟩
theorem over : Rows.logCrashRow.holds Try.pinned (OpenSpec.ofChange Rows.logCrashSpec) :=
  OpenClaim.holds_of_wide 7 Try.f7 rfl rfl rfl rfl rfl rfl rfl ⟨rfl, rfl, rfl, rfl, rfl⟩ rfl rfl rfl rfl rfl (by kernel_rfl) Try.func7 (by kernel_rfl)
    (of_decide_eq_true (by kernel_rfl)) (by unfold Func.isWrapper; first | (rw [if_pos (by decide +kernel)]; kernel_rfl) | (rw [if_neg (by decide +kernel)]; exact ⟨rfl, rfl⟩))
    (fun os started H enc _ => lifted os started H enc)
theorem proved : Rows.LogCrashSaid := over
#print axioms proved
end Go.Proofs.Ytipclnniaenciaa.logCrash
namespace Go.Proofs.Ytipclnniaenciaa
/-- The row, under a short name, for the claim. -/
theorem logCrash_holds : Rows.LogCrashSaid := logCrash.proved
end Go.Proofs.Ytipclnniaenciaa
