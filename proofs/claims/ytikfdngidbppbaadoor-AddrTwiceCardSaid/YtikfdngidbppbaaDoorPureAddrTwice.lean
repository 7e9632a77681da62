/- The plain statement of AddrTwice, proved for every input in the text that is imported here. -/
import Derived.Test.YtikfdngidbppbaaDoorAddrLaws2
namespace Go.Proofs.YtikfdngidbppbaaDoor.Pure
open Go.RowKit Go.Proofs.YtikfdngidbppbaaDoor.PB Go.Proofs.YtikfdngidbppbaaDoorW.PrintWords Go.Proofs.YtikfdngidbppbaaDoorW.PrintLast
theorem AddrTwice : estafettelaw01_AddrTwice.Pure := Addr.AddrTwice
end Go.Proofs.YtikfdngidbppbaaDoor.Pure
