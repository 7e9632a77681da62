/- The plain statement of BinSizes, proved for every input in the text that is imported here. -/
import Derived.Test.YtljhfaneepehcaaDoorBinSizes
namespace Go.Proofs.YtljhfaneepehcaaDoor.Pure
open Go.RowKit Go.Proofs.YtljhfaneepehcaaDoor.PD
theorem BinSizes : estafettelaw12_BinSizes.Pure := fun _ h => Addr.BinSizes _ _ _ _ _ _ _ _ _ ⟨h.2.2.2.2.2.1, h.2.2.2.2.2.2.1.1, h.2.2.2.2.2.2.1.2, h.2.2.2.2.2.2.2.1.1, h.2.2.2.2.2.2.2.2.1, h.2.2.2.2.2.2.2.2.2⟩
end Go.Proofs.YtljhfaneepehcaaDoor.Pure
