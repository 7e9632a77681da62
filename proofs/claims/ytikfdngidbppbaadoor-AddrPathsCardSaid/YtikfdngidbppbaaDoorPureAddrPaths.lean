/- The plain statement of AddrPaths, proved for every input in the text that is imported here. -/
import Derived.Test.YtikfdngidbppbaaDoorAddrLaws
namespace Go.Proofs.YtikfdngidbppbaaDoor.Pure
open Go.RowKit Go.Proofs.YtikfdngidbppbaaDoor.PB Go.Proofs.YtikfdngidbppbaaDoorW.PrintWords Go.Proofs.YtikfdngidbppbaaDoorW.PrintLast
theorem AddrPaths : estafettelaw01_AddrPaths.Pure := Addr.AddrPaths
end Go.Proofs.YtikfdngidbppbaaDoor.Pure
