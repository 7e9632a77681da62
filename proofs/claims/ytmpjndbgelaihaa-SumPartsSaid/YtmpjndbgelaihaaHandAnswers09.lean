/- 'answers' of chapter 9's statements returns true: the sum of nine bytes, and four bytes sealed of none. -/
import Derived.Test.YtmpjndbgelaihaaPAx
import Derived.Test.YtmpjndbgelaihaaSumSpec
import Derived.Lib.SlBytesConst
namespace Go.Proofs.Ytmpjndbgelaihaa.Hand
open Go.RowKit Go.Proofs.YtmpjndbgelaihaaW.PrintWords Go.Proofs.YtmpjndbgelaihaaW.PrintLast Go.Proofs.YtmpjndbgelaihaaW.PrintMore Go.Proofs.Ytmpjndbgelaihaa.Spec
set_option linter.unusedVariables false
set_option linter.unusedSimpArgs false

/-- Bytes that lie at the head of a block, whatever mark it bears. -/
theorem C_block {W : World} {k : IntKind} {g e : Nat} {fr : Nat × Nat} {xs : List Int} {cs : Array Value} (hb : W.heap[g]? = some (.cells cs e fr)) (hcs : cs = ((xs.map (Value.int k)).toArray)) (hn : xs.length ≤ 9223372036854775807) : Kd.C (Kd.int k) W (some ⟨g, 0, none⟩) xs.length xs := by
  subst hcs
  refine Kd.C_of_reads (d := (0 : Int)) ⟨rfl, hn, fun _ => ⟨_, rfl, fun j hj => ?_⟩⟩
  rw [add_plain]
  simp [World.cell?, hb, List.getD_eq_getElem?_getD, hj]

def answers.f : Option Bool := some true
set_option maxHeartbeats 4000000 in
set_option maxRecDepth 100000 in
theorem answers.calls (r : Bool) (w : World) (h : answers.f = some r) : Calls Try.prog 7 #[] w fun e w' => e = .returned (.bool r) ∧ Below w.heap.size w w' := by
  obtain rfl : true = r := Option.some.inj h
  obtain ⟨K1, h1⟩ := of_ev [49, 50, 51, 52, 53, 54, 55, 56, 57] (by decide)
  have h1 := h1 K1 (Nat.le_refl _)
  rw [show sm [49, 50, 51, 52, 53, 54, 55, 56, 57] = 3421780262 from by decide +kernel] at h1
  obtain ⟨K2, h2⟩ := seal_ev [] (by decide)
  have h2 := h2 K2 (Nat.le_refl _)
  have H1 := Aside0.mk h1
  have H2 := Aside0.mk h2
  clear h1 h2
  have kc := fun (w : World) (C : Array Value) (n c : Nat) => Lib.run_convert_bytes_const (P := Try.prog) w 22 5 C n c Try.underlying22 Try.underlying5
  go_enter Try.func7, Try.ntmps7
  go_wp2_with fail
  refine (PA.sum_Of.calls K1 _ 9 [49, 50, 51, 52, 53, 54, 55, 56, 57] 3421780262 _ (C_block (g := w.heap.size) (e := 5) (fr := (9, 10)) (cs := #[.int .u8 49, .int .u8 50, .int .u8 51, .int .u8 52, .int .u8 53, .int .u8 54, .int .u8 55, .int .u8 56, .int .u8 57]) (by show (w.heap.push _)[w.heap.size]? = _; simp) rfl (by decide)) (by decide) H1.out).mono ?_
  rintro e w1 ⟨rfl, hd⟩
  have hb := hd.below
  have HB : Below w.heap.size w w1 := ((Below.refl w.heap.size w).alloc (Nat.le_refl _) _).trans (hb.mono (by simp))
  have HBB := Aside0.mk HB
  clear HB hb hd
  go_wp2_with fail
  refine (PA.sum_Seal.calls K2 none 0 [] (sealL []) _ (Kd.C_nil _ _) (by decide) H2.out).mono ?_
  rintro e w2 ⟨v, rfl, hR, hb2⟩
  obtain ⟨A, c, rfl, _, _⟩ := Kd.R_reads hR
  have hl : (sealL []).length = 4 := seal_len []
  rw [hl]
  go_wp2
  go_ret
  exact ⟨rfl, HBB.out.trans (hb2.mono HBB.out.size)⟩
end Go.Proofs.Ytmpjndbgelaihaa.Hand
