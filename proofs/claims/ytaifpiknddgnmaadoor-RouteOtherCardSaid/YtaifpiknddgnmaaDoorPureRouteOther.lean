/- The plain statement of RouteOther, proved for every input in the text that is imported here. -/
import Derived.Test.YtaifpiknddgnmaaDoorRouteOther
namespace Go.Proofs.YtaifpiknddgnmaaDoor.Pure
open Go.RowKit Go.Proofs.YtaifpiknddgnmaaDoor.PD
theorem RouteOther : estafettelaw17_RouteOther.Pure := fun _ _ _ _ _ _ => Addr.RouteOther _ _ _ _ _ _
end Go.Proofs.YtaifpiknddgnmaaDoor.Pure
