/- For every input: what the functions below return, or the statement that this text proves. Written by a program of this claim.s author (a turned print). -/
import Derived.Test.YtpkeplifflnemaaDoorPCx0
import Derived.Test.YtpkeplifflnemaaDoorPCx1
import Derived.Test.YtpkeplifflnemaaDoorPCx2
namespace Go.Proofs.YtpkeplifflnemaaDoor.PC
open Go.RowKit Go.Proofs.YtpkeplifflnemaaDoorW.PrintWords Go.Proofs.YtpkeplifflnemaaDoorW.PrintLast Go.Proofs.YtpkeplifflnemaaDoorW.PrintMore
open Go.Proofs.YtpkeplifflnemaaDoor.PB
attribute [local go_sem] max2_int min2_int max_two min_two max_three min_three max_four min_four   -- for this text's walks alone
set_option linter.unusedVariables false
set_option linter.unusedSimpArgs false

end Go.Proofs.YtpkeplifflnemaaDoor.PC
