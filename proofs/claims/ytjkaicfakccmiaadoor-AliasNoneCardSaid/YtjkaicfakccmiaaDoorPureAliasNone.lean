/- The plain statement of AliasNone, proved for every input in the text that is imported here. -/
import Derived.Test.YtjkaicfakccmiaaDoorAliasNone
namespace Go.Proofs.YtjkaicfakccmiaaDoor.Pure
open Go.RowKit Go.Proofs.YtjkaicfakccmiaaDoor.PC
theorem AliasNone : estafettelaw16_AliasNone.Pure := fun _ _ h0 _ => Addr.AliasNone _ _ h0.2
end Go.Proofs.YtjkaicfakccmiaaDoor.Pure
