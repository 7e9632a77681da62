/- The plain statement of RuleDomains, proved for every input in the text that is imported here. -/
import Derived.Test.YtpkeplifflnemaaDoorRuleDomains
namespace Go.Proofs.YtpkeplifflnemaaDoor.Pure
open Go.RowKit Go.Proofs.YtpkeplifflnemaaDoor.PF
theorem RuleDomains : estafettelaw18_RuleDomains.Pure := fun _ _ _ _ _ _ => Addr.RuleDomains _ _ _
end Go.Proofs.YtpkeplifflnemaaDoor.Pure
