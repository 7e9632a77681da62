/- The plain statement of AddrNames, proved for every input in the text that is imported here. -/
import Derived.Test.YtikfdngidbppbaaDoorAddrLaws
namespace Go.Proofs.YtikfdngidbppbaaDoor.Pure
open Go.RowKit Go.Proofs.YtikfdngidbppbaaDoor.PB Go.Proofs.YtikfdngidbppbaaDoorW.PrintWords Go.Proofs.YtikfdngidbppbaaDoorW.PrintLast
theorem AddrNames : estafettelaw01_AddrNames.Pure := Addr.AddrNames
end Go.Proofs.YtikfdngidbppbaaDoor.Pure
