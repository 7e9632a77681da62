/- The plain statement of DotsBounds, proved for every input in the text that is imported here. -/
import Derived.Test.YtpplahmnlgokbaaDotsLaws
namespace Go.Proofs.Ytpplahmnlgokbaa.Pure
open Go.RowKit Go.Proofs.Ytpplahmnlgokbaa.PB
theorem DotsBounds : estafettelaw05_DotsBounds.Pure := Dots.DotsBounds
end Go.Proofs.Ytpplahmnlgokbaa.Pure
