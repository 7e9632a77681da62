/- The plain statement of AddrLengths, proved for every input in the text that is imported here. -/
import Derived.Test.YtikfdngidbppbaaDoorAddrLaws3
namespace Go.Proofs.YtikfdngidbppbaaDoor.Pure
open Go.RowKit Go.Proofs.YtikfdngidbppbaaDoor.PB
theorem AddrLengths : estafettelaw01_AddrLengths.Pure := Addr.AddrLengths
end Go.Proofs.YtikfdngidbppbaaDoor.Pure
