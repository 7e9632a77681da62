/- The plain statement of RuleFree, proved for every input in the text that is imported here. -/
import Derived.Test.YtpkeplifflnemaaDoorRuleBase
namespace Go.Proofs.YtpkeplifflnemaaDoor.Pure
open Go.RowKit Go.Proofs.YtpkeplifflnemaaDoor.PC
theorem RuleFree : estafettelaw18_RuleFree.Pure := fun _ _ _ _ h1 _ => Addr.RuleFree _ _ _ _ _ _ h1
end Go.Proofs.YtpkeplifflnemaaDoor.Pure
