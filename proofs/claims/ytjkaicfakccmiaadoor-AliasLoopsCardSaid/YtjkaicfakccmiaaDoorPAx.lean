/- For every input: what the functions below return, or the statement that this text proves. Written by a program of this claim.s author (a turned print). -/
import Derived.Test.YtjkaicfakccmiaaDoorPAx0
import Derived.Test.YtjkaicfakccmiaaDoorPAx1
namespace Go.Proofs.YtjkaicfakccmiaaDoor.PA
open Go.RowKit Go.Proofs.YtjkaicfakccmiaaDoorW.PrintWords Go.Proofs.YtjkaicfakccmiaaDoorW.PrintLast Go.Proofs.YtjkaicfakccmiaaDoorW.PrintMore
attribute [local go_sem] max2_int min2_int max_two min_two max_three min_three max_four min_four   -- for this text's walks alone
set_option linter.unusedVariables false
set_option linter.unusedSimpArgs false

end Go.Proofs.YtjkaicfakccmiaaDoor.PA
