/- The plain statement of RouteGroups, proved for every input in the text that is imported here. -/
import Derived.Test.YtaifpiknddgnmaaDoorRouteGroups
namespace Go.Proofs.YtaifpiknddgnmaaDoor.Pure
open Go.RowKit Go.Proofs.YtaifpiknddgnmaaDoor.PE
theorem RouteGroups : estafettelaw17_RouteGroups.Pure := fun _ _ _ _ h1 _ => Addr.RouteGroups _ _ _ _ _ _ h1.2
end Go.Proofs.YtaifpiknddgnmaaDoor.Pure
