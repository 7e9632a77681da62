/- The plain statement of BinBack, proved for every input in the text that is imported here. -/
import Derived.Test.YtljhfaneepehcaaDoorBinBack
namespace Go.Proofs.YtljhfaneepehcaaDoor.Pure
open Go.RowKit Go.Proofs.YtljhfaneepehcaaDoor.PE
theorem BinBack : estafettelaw12_BinBack.Pure := fun _ h => Addr.BinBack _ _ _ _ _ _ _ _ _ ⟨h.2.2.2.2.2.1, h.2.2.2.2.2.2.1.1, h.2.2.2.2.2.2.1.2, h.2.2.2.2.2.2.2.1.1, h.2.2.2.2.2.2.2.2.1, h.2.2.2.2.2.2.2.2.2⟩
end Go.Proofs.YtljhfaneepehcaaDoor.Pure
