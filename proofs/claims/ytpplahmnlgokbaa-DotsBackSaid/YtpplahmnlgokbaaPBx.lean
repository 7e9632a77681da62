/- For every input: what the functions below return, or the statement that this text proves. Written by a program of this claim.s author (a turned print). -/
import Derived.Test.YtpplahmnlgokbaaPBx0
import Derived.Test.YtpplahmnlgokbaaPBx1
import Derived.Test.YtpplahmnlgokbaaPBx2
import Derived.Test.YtpplahmnlgokbaaPBx3
namespace Go.Proofs.Ytpplahmnlgokbaa.PB
open Go.RowKit Go.Proofs.YtpplahmnlgokbaaW.PrintWords Go.Proofs.YtpplahmnlgokbaaW.PrintLast Go.Proofs.YtpplahmnlgokbaaW.PrintMore
attribute [local go_sem] max2_int min2_int max_two min_two max_three min_three max_four min_four   -- for this text's walks alone
set_option linter.unusedVariables false
set_option linter.unusedSimpArgs false

end Go.Proofs.Ytpplahmnlgokbaa.PB
