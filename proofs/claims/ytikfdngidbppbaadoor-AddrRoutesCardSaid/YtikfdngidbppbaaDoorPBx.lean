/- For every input: what the functions below return, or the statement that this text proves. Written by a program of this claim.s author (a turned print). -/
import Derived.Test.YtikfdngidbppbaaDoorPBx0
import Derived.Test.YtikfdngidbppbaaDoorPBx1
import Derived.Test.YtikfdngidbppbaaDoorPBx2
import Derived.Test.YtikfdngidbppbaaDoorPBx3
import Derived.Test.YtikfdngidbppbaaDoorPBx4
import Derived.Test.YtikfdngidbppbaaDoorPBx5
import Derived.Test.YtikfdngidbppbaaDoorPBx6
import Derived.Test.YtikfdngidbppbaaDoorPBx7
import Derived.Test.YtikfdngidbppbaaDoorPBx8
namespace Go.Proofs.YtikfdngidbppbaaDoor.PB
open Go.RowKit Go.Proofs.YtikfdngidbppbaaDoorW.PrintWords Go.Proofs.YtikfdngidbppbaaDoorW.PrintLast Go.Proofs.YtikfdngidbppbaaDoorW.PrintMore
attribute [local go_sem] max2_int min2_int max_two min_two max_three min_three max_four min_four   -- for this text's walks alone
set_option linter.unusedVariables false
set_option linter.unusedSimpArgs false

end Go.Proofs.YtikfdngidbppbaaDoor.PB
