/- The plain statement of RuleMore, proved for every input in the text that is imported here. -/
import Derived.Test.YtpkeplifflnemaaDoorRuleMore
namespace Go.Proofs.YtpkeplifflnemaaDoor.Pure
open Go.RowKit Go.Proofs.YtpkeplifflnemaaDoor.PE
theorem RuleMore : estafettelaw18_RuleMore.Pure := fun _ _ _ _ _ _ h2 _ => Addr.RuleMore _ _ _ _ _ _ _ _ h2
end Go.Proofs.YtpkeplifflnemaaDoor.Pure
