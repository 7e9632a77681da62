/- The plain statement of RouteHops, proved for every input in the text that is imported here. -/
import Derived.Test.YtaifpiknddgnmaaDoorRouteBase
namespace Go.Proofs.YtaifpiknddgnmaaDoor.Pure
open Go.RowKit Go.Proofs.YtaifpiknddgnmaaDoor.PC
theorem RouteHops : estafettelaw17_RouteHops.Pure := fun _ _ _ h1 => Addr.RouteHops _ _ _ _ _ h1
end Go.Proofs.YtaifpiknddgnmaaDoor.Pure
