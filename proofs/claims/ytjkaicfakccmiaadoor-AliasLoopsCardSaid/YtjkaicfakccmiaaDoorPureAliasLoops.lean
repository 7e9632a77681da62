/- The plain statement of AliasLoops, proved for every input in the text that is imported here. -/
import Derived.Test.YtjkaicfakccmiaaDoorAliasLoops
namespace Go.Proofs.YtjkaicfakccmiaaDoor.Pure
open Go.RowKit Go.Proofs.YtjkaicfakccmiaaDoor.PC
theorem of_wf {x : Int} (h : (Lit.int .u8 x).wf = true) : 0 ≤ x ∧ x < 256 := by
  unfold Lit.wf at h
  rw [Bool.and_eq_true, decide_eq_true_iff, decide_eq_true_iff] at h
  have h1 : (0 : Int) ≤ x := h.1
  have h2 : x ≤ (255 : Int) := h.2
  omega
theorem AliasLoops : estafettelaw16_AliasLoops.Pure := fun a0 a1 h0 h1 => Addr.AliasLoops a0 a1 (of_wf h0) (of_wf h1)
end Go.Proofs.YtjkaicfakccmiaaDoor.Pure
