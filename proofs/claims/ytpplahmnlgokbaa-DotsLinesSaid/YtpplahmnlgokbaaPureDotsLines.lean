/- The plain statement of DotsLines, proved for every input in the text that is imported here. -/
import Derived.Test.YtpplahmnlgokbaaDotsLaws
namespace Go.Proofs.Ytpplahmnlgokbaa.Pure
open Go.RowKit Go.Proofs.Ytpplahmnlgokbaa.PB
theorem DotsLines : estafettelaw05_DotsLines.Pure := Dots.DotsLines
end Go.Proofs.Ytpplahmnlgokbaa.Pure
