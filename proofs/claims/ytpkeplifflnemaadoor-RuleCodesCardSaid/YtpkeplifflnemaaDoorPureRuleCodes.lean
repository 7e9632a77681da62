/- The plain statement of RuleCodes, proved for every input in the text that is imported here. -/
import Derived.Test.YtpkeplifflnemaaDoorRuleCodes
namespace Go.Proofs.YtpkeplifflnemaaDoor.Pure
open Go.RowKit Go.Proofs.YtpkeplifflnemaaDoor.PD
theorem RuleCodes : estafettelaw18_RuleCodes.Pure := fun _ _ _ _ h1 _ => Addr.RuleCodes _ _ _ _ _ _ h1
end Go.Proofs.YtpkeplifflnemaaDoor.Pure
