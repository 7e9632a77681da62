/- The plain statement of AddrRoutes, proved for every input in the text that is imported here. -/
import Derived.Test.YtikfdngidbppbaaDoorAddrLaws4
namespace Go.Proofs.YtikfdngidbppbaaDoor.Pure
open Go.RowKit Go.Proofs.YtikfdngidbppbaaDoor.PB
theorem AddrRoutes (x0 : ByteArray) (x1 : List ByteArray) (h0 : x0.size ≤ 140737488351232) (_h1 : x1.length * 16 ≤ 140737488351232 ∧ ∀ s ∈ x1, s.size ≤ 140737488351232) : ∃ k, estafettelaw01_AddrRoutes.f k x0 x1 = some true := Addr.AddrRoutes x0 x1 h0
end Go.Proofs.YtikfdngidbppbaaDoor.Pure
