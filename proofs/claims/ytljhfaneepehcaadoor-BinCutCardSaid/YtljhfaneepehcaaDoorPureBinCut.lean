/- The plain statement of BinCut, proved for every input in the text that is imported here. -/
import Derived.Test.YtljhfaneepehcaaDoorBinCut
namespace Go.Proofs.YtljhfaneepehcaaDoor.Pure
open Go.RowKit Go.Proofs.YtljhfaneepehcaaDoor.PF
theorem of_wf {x : Int} (h : (Lit.int .u8 x).wf = true) : 0 ≤ x ∧ x < 256 := by
  unfold Lit.wf at h
  rw [Bool.and_eq_true, decide_eq_true_iff, decide_eq_true_iff] at h
  have h1 : (0 : Int) ≤ x := h.1
  have h2 : x ≤ (255 : Int) := h.2
  omega
theorem of_wf16 {x : Int} (h : (Lit.int .u16 x).wf = true) : 0 ≤ x ∧ x < 65536 := by
  unfold Lit.wf at h
  rw [Bool.and_eq_true, decide_eq_true_iff, decide_eq_true_iff] at h
  have h1 : (0 : Int) ≤ x := h.1
  have h2 : x ≤ (65535 : Int) := h.2
  omega
theorem BinCut : estafettelaw12_BinCut.Pure := fun _ n more h hn hm => Addr.BinCut _ _ _ _ _ _ _ _ _ n more ⟨h.2.2.2.2.2.1, h.2.2.2.2.2.2.1.1, h.2.2.2.2.2.2.1.2, h.2.2.2.2.2.2.2.1.1, h.2.2.2.2.2.2.2.2.1, h.2.2.2.2.2.2.2.2.2⟩ (of_wf16 hn).1 (of_wf16 hn).2 (fun x hx => of_wf (hm.2 x hx))
end Go.Proofs.YtljhfaneepehcaaDoor.Pure
