/- The plain statement of RouteAll, proved for every input in the text that is imported here. -/
import Derived.Test.YtaifpiknddgnmaaDoorRouteAll
namespace Go.Proofs.YtaifpiknddgnmaaDoor.Pure
open Go.RowKit Go.Proofs.YtaifpiknddgnmaaDoor.PF
theorem RouteAll : estafettelaw17_RouteAll.Pure := fun _ _ _ h1 => Addr.RouteAll _ _ _ _ _ h1.2
end Go.Proofs.YtaifpiknddgnmaaDoor.Pure
