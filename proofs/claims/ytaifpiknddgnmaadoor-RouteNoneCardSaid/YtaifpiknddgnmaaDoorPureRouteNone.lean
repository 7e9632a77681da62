/- The plain statement of RouteNone, proved for every input in the text that is imported here. -/
import Derived.Test.YtaifpiknddgnmaaDoorRouteNone
namespace Go.Proofs.YtaifpiknddgnmaaDoor.Pure
open Go.RowKit Go.Proofs.YtaifpiknddgnmaaDoor.PG
theorem RouteNone : estafettelaw17_RouteNone.Pure := fun _ _ h0 _ => Addr.RouteNone _ _ h0.2
end Go.Proofs.YtaifpiknddgnmaaDoor.Pure
