/- The names of the laws AliasLoops and AliasMany: numbers in letters; each its own small form, no two alike. -/
import Derived.Test.YtjkaicfakccmiaaDoorAliasBase
namespace Go.Proofs.YtjkaicfakccmiaaDoor.Addr
open Go.RowKit Go.Proofs.YtjkaicfakccmiaaDoor.PC Go.Proofs.YtjkaicfakccmiaaDoor.PB Go.Proofs.YtjkaicfakccmiaaDoorW.PrintWords Go.Proofs.YtjkaicfakccmiaaDoorW.PrintLast Go.Proofs.YtjkaicfakccmiaaDoorW.PrintMore Go.Proofs.YtjkaicfakccmiaaDoor.Hand
set_option linter.unusedVariables false
def dS (i : Nat) : ByteArray := (estafetteref01_Dec.f 5 (i : Int)).getD ⟨#[]⟩
def tagB (c d : UInt8) (i : Nat) : ByteArray := ((⟨#[c]⟩ : ByteArray) ++ dS i) ++ (⟨#[64, d]⟩ : ByteArray)
def lxB : ByteArray := ⟨#[108, 64, 120]⟩
theorem dec_all : ∀ i : Nat, i < 80 → estafetteref01_Dec.f 5 (i : Int) = some (dS i) := by
  intro i hi
  have : ∀ i : Nat, i < 80 → (estafetteref01_Dec.f 5 (i : Int)).isSome = true := by decide +kernel
  unfold dS
  exact (Option.some_get (this i hi)).symm ▸ by rw [Option.getD_some]
theorem dec_ev (i : Nat) (hi : i < 80) : Ev (fun k => estafetteref01_Dec.f k (i : Int)) (dS i) := Ev.of (k := 5) (estafetteref01_Dec.mono _) (dec_all i hi)
theorem dS_size : ∀ i : Nat, i < 80 → (dS i).size ≤ 2 := by decide +kernel
theorem tag_size (c d : UInt8) (i : Nat) (hi : i < 80) : (tagB c d i).size ≤ 5 := by
  have := dS_size i hi
  unfold tagB
  rw [ByteArray.size_append, ByteArray.size_append]
  show 1 + (dS i).size + 2 ≤ 5
  omega
/-! each name is its own small form -/
theorem can_a : ∀ i : Nat, i < 80 → canB (tagB 97 120 i) = tagB 97 120 i := by decide +kernel
theorem can_b : ∀ i : Nat, i < 30 → canB (tagB 98 120 i) = tagB 98 120 i := by decide +kernel
theorem can_t : ∀ i : Nat, i < 40 → canB (tagB 116 121 i) = tagB 116 121 i := by decide +kernel
theorem can_l : canB lxB = lxB := by decide +kernel
theorem dS_inj : ∀ i : Nat, i < 80 → ∀ j : Nat, j < 80 → dS i = dS j → i = j := by decide +kernel
theorem tag_data (c d : UInt8) (i : Nat) : (tagB c d i).data.toList = c :: ((dS i).data.toList ++ [64, d]) := by
  unfold tagB
  rw [list_app, list_app]
  rfl
theorem tag_inj {c d : UInt8} {i j : Nat} (hi : i < 80) (hj : j < 80) (h : tagB c d i = tagB c d j) : i = j := by
  have h1 : (tagB c d i).data.toList = (tagB c d j).data.toList := by rw [h]
  rw [tag_data, tag_data] at h1
  injection h1 with _ h1
  exact dS_inj i hi j hj (ByteArray.ext (Array.toList_inj.1 (List.append_cancel_right h1)))
theorem tag_other {c d c' d' : UInt8} {i j : Nat} (hc : c ≠ c') : tagB c d i ≠ tagB c' d' j := fun h => by
  have h1 : (tagB c d i).data.toList = (tagB c' d' j).data.toList := by rw [h]
  rw [tag_data, tag_data] at h1
  injection h1 with h1 _
  exact hc h1
theorem tag_l {c d : UInt8} {i : Nat} (hc : c ≠ 108) : tagB c d i ≠ lxB := fun h => by
  have h1 : (tagB c d i).data.toList = lxB.data.toList := by rw [h]
  rw [tag_data] at h1
  injection h1 with h1 _
  exact hc h1
end Go.Proofs.YtjkaicfakccmiaaDoor.Addr
