/- strings.Index, strings.Count, strings.IndexByte at one byte, by the shelf's contracts, in the form in which the printed texts call them; strings.explode is never called there. -/
import Derived.Test.YtljhfaneepehcaaDoorShelf
import Derived.Test.YtljhfaneepehcaaDoorWMore
namespace Go.Proofs.YtljhfaneepehcaaDoor.Hand
open Go.RowKit Go.Proofs.YtljhfaneepehcaaDoorW.PrintWords Go.Proofs.YtljhfaneepehcaaDoorW.PrintLast Go.Proofs.YtljhfaneepehcaaDoorW.PrintMore
set_option linter.unusedVariables false
def one (s : ByteArray) : Option UInt8 := match s.data.toList with
  | [c] => some c
  | _ => none
theorem one_mk {s : ByteArray} {c : UInt8} (h : one s = some c) : s = ⟨#[c]⟩ := by
  unfold one at h
  split at h
  · next x hx =>
    injection h with h
    subst h
    apply ByteArray.ext
    apply Array.toList_inj.1
    rw [hx]
  · cases h
def strings_Index.f (a0 a1 : ByteArray) : Option Int := (one a1).map fun c => Lib.indexByte a0.data.toList c
def stringslite_Index.f (a0 a1 : ByteArray) : Option Int := (one a1).map fun c => Lib.indexByte a0.data.toList c
def strings_Count.f (a0 a1 : ByteArray) : Option Int := (one a1).map fun c => (Lib.countByte a0.data.toList c : Int)
def strings_IndexByte.f (a0 : ByteArray) (a1 : Int) : Option Int := some (Lib.indexByte a0.data.toList a1.toNat.toUInt8)
def strings_explode.f (a0 : ByteArray) (a1 : Int) : Option (List ByteArray) := none
theorem strings_Index.calls (a0 a1 : ByteArray) (r : Int) (w : World) (h : strings_Index.f a0 a1 = some r) :
    Calls Tryd.prog 75 #[.string a0, .string a1] w fun e w' => e = .returned (.int .i64 r) ∧ Drawn0 w w' := by
  obtain ⟨c, h1, h2⟩ := Option.map_eq_some_iff.1 h
  rw [one_mk h1]
  refine (Tryd.strings_Index_one a0 c w).mono ?_
  rintro e w' ⟨rfl, rfl⟩
  exact ⟨by rw [h2], Drawn0.refl _⟩
theorem stringslite_Index.calls (a0 a1 : ByteArray) (r : Int) (w : World) (h : stringslite_Index.f a0 a1 = some r) :
    Calls Tryd.prog 66 #[.string a0, .string a1] w fun e w' => e = .returned (.int .i64 r) ∧ Drawn0 w w' := by
  obtain ⟨c, h1, h2⟩ := Option.map_eq_some_iff.1 h
  rw [one_mk h1]
  refine (Tryd.stringslite_Index_one a0 c w).mono ?_
  rintro e w' ⟨rfl, rfl⟩
  exact ⟨by rw [h2], Drawn0.refl _⟩
theorem strings_Count.calls (a0 a1 : ByteArray) (r : Int) (w : World) (h : strings_Count.f a0 a1 = some r) :
    Calls Tryd.prog 74 #[.string a0, .string a1] w fun e w' => e = .returned (.int .i64 r) ∧ Drawn0 w w' := by
  obtain ⟨c, h1, h2⟩ := Option.map_eq_some_iff.1 h
  rw [one_mk h1]
  refine (Tryd.strings_Count_one a0 c w).mono ?_
  rintro e w' ⟨rfl, rfl⟩
  exact ⟨by rw [h2], Drawn0.refl _⟩
theorem strings_IndexByte.calls (a0 : ByteArray) (a1 : Int) (r : Int) (w : World) (h : strings_IndexByte.f a0 a1 = some r) :
    Calls Tryd.prog 43 #[.string a0, .int .u8 a1] w fun e w' => e = .returned (.int .i64 r) ∧ Drawn0 w w' := by
  refine (Tryd.strings_IndexByte a0 a1 w).mono ?_
  rintro e w' ⟨rfl, rfl⟩
  have h' : Lib.indexByte a0.data.toList a1.toNat.toUInt8 = r := Option.some.inj h
  exact ⟨by rw [h'], Drawn0.refl _⟩
theorem strings_explode.calls (a0 : ByteArray) (a1 : Int) (r : List ByteArray) (w : World) (h : strings_explode.f a0 a1 = some r) :
    Calls Tryd.prog 73 #[.string a0, .int .i64 a1] w fun e w' => ∃ v0_ : Value, e = .returned (v0_) ∧ Kd.R Kd.string 9 w' w.heap.size (fun _ => True) v0_ r ∧ Below w.heap.size w w' := by
  cases h
end Go.Proofs.YtljhfaneepehcaaDoor.Hand
