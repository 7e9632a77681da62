/- For every input: what the functions below return, or the statement that this text proves. Written by a program of this claim.s author (a turned print). -/
import Derived.Test.YtpkeplifflnemaaDoorPAx0
import Derived.Test.YtpkeplifflnemaaDoorPAx1
namespace Go.Proofs.YtpkeplifflnemaaDoor.PA
open Go.RowKit Go.Proofs.YtpkeplifflnemaaDoorW.PrintWords Go.Proofs.YtpkeplifflnemaaDoorW.PrintLast Go.Proofs.YtpkeplifflnemaaDoorW.PrintMore
attribute [local go_sem] max2_int min2_int max_two min_two max_three min_three max_four min_four   -- for this text's walks alone
set_option linter.unusedVariables false
set_option linter.unusedSimpArgs false

end Go.Proofs.YtpkeplifflnemaaDoor.PA
