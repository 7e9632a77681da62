/- strings.IndexByte by the shelf's contract, in the form in which the printed texts call it. -/
import Derived.Test.YtpplahmnlgokbaaShelf
import Derived.Test.YtpplahmnlgokbaaWMore
namespace Go.Proofs.Ytpplahmnlgokbaa.Hand
open Go.RowKit Go.Proofs.YtpplahmnlgokbaaW.PrintWords Go.Proofs.YtpplahmnlgokbaaW.PrintLast Go.Proofs.YtpplahmnlgokbaaW.PrintMore
def strings_IndexByte.f (a0 : ByteArray) (a1 : Int) : Option Int := some (Lib.indexByte a0.data.toList a1.toNat.toUInt8)
theorem strings_IndexByte.calls (a0 : ByteArray) (a1 : Int) (r : Int) (w : World) (h : strings_IndexByte.f a0 a1 = some r) :
    Calls Try.prog 22 #[.string a0, .int .u8 a1] w fun e w' => e = .returned (.int .i64 r) ∧ Drawn0 w w' := by
  refine (Try.strings_IndexByte a0 a1 w).mono ?_
  rintro e w' ⟨rfl, rfl⟩
  have h' : Lib.indexByte a0.data.toList a1.toNat.toUInt8 = r := Option.some.inj h
  exact ⟨by rw [h'], Drawn0.refl _⟩
end Go.Proofs.Ytpplahmnlgokbaa.Hand
