/- The plain statement of DotsStuff, proved for every input in the text that is imported here. -/
import Derived.Test.YtpplahmnlgokbaaDotsLaws
namespace Go.Proofs.Ytpplahmnlgokbaa.Pure
open Go.RowKit Go.Proofs.Ytpplahmnlgokbaa.PB
theorem DotsStuff (l : List ByteArray) (h : l.length * 16 ≤ 140737488351232 ∧ ∀ s ∈ l, s.size ≤ 140737488351232) : ∃ k, estafettelaw05_DotsStuff.f k l = some true := Dots.DotsStuff l h.1 h.2
end Go.Proofs.Ytpplahmnlgokbaa.Pure
