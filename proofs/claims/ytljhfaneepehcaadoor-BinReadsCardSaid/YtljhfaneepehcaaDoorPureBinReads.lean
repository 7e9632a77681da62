/- The plain statement of BinReads, proved for every input in the text that is imported here. -/
import Derived.Test.YtljhfaneepehcaaDoorBinReads
namespace Go.Proofs.YtljhfaneepehcaaDoor.Pure
open Go.RowKit Go.Proofs.YtljhfaneepehcaaDoor.PG
theorem of_wf {x : Int} (h : (Lit.int .u8 x).wf = true) : 0 ≤ x ∧ x < 256 := by
  unfold Lit.wf at h
  rw [Bool.and_eq_true, decide_eq_true_iff, decide_eq_true_iff] at h
  have h1 : (0 : Int) ≤ x := h.1
  have h2 : x ≤ (255 : Int) := h.2
  omega
theorem BinReads : estafettelaw12_BinReads.Pure := fun l0 _ _ h => Addr.BinReads l0 (fun x hx => of_wf (h x hx))
end Go.Proofs.YtljhfaneepehcaaDoor.Pure
