/-
  No cell of these rows narrows 'for every input' (looked for: loops, veiled, ifaces, maps, wideKeys, modest, calm, conditions, laid).
  DERIVED. THE GIVEN ROWS OF THIS SEAT. 4 by the template 'for every input the law returns true; each argument reads behind the call as it read before'; 0 by the template 'total and deterministic' (their statements: YtpplahmnlgokbaaTotals.lean).
  GIVEN WITH THE SEED: the statements are not yours to turn. If you find one false, say at which input.
  Laid BY PROGRAM, IN A SANDBOX (cutbox-rows.mjs): the forced cells as the released guide's own fill.sh prints them over the translation 4836d11741cf29dc… (all of the seat's roots in one cut). By AI agents, Wed Nov 11 2026. No macro, syntax, notation, axiom, sorry.
-/
import Derived.Test.YtpplahmnlgokbaaChecked
import GoSem.Claim
import GoSem.ClaimJoined
import GoSem.ClaimMapViews
import Derived.JoinedTies
import Derived.KernelRfl
namespace Go.Proofs.Ytpplahmnlgokbaa
/- THE CELL 'sum', in the pinned program and in every row, IS THE sha256 OF THE DUMP (.gsa) THAT YtpplahmnlgokbaaProg.lean LOADS. Nothing in Lean hashes anything: it is a label: what it is worth is what the hold of that sum in a sandbox is worth. -/
noncomputable def Try.pinned : Pinned := { name := "ytpplahmnlgokbaa", sum := "4836d11741cf29dce5beb5668ed4c620e3486d8b1c2352ee1b520df53028d095", checked := Try.checked }
namespace Rows
def none {H : Type} : Left H := { results := [], args := [] }

/-- 'estafettelaw05.DotsStuff': WHATEVER THE INPUT: true; the input reads as it did. -/
def dotsStuffSpec : ChangeSpec := { name := "dotsStuff", fn := fun _ => fun
  | [d] => { results := [.lit (.bool true)], args := [d] }
  | _ => none }
def dotsStuffRow : OpenClaim := { program := "ytpplahmnlgokbaa", sum := "4836d11741cf29dce5beb5668ed4c620e3486d8b1c2352ee1b520df53028d095", func := "estafette/estafettelaw05.DotsStuff", spec := "dotsStuff", inPlace := ["internal/bytealg.IndexByteString", "internal/abi.NoEscape"], apart := false }
def DotsStuffSaid : Prop := dotsStuffRow.holds Try.pinned (OpenSpec.ofChange dotsStuffSpec)

/-- ITS FALSE NEIGHBOUR: 'it returns false'. Refute it at one input. -/
def dotsStuffWrong : ChangeSpec := { name := "dotsStuff", fn := fun _ => fun
  | [d] => { results := [.lit (.bool false)], args := [d] }
  | _ => none }
def DotsStuffWrongFalsely : Prop := dotsStuffRow.holds Try.pinned (OpenSpec.ofChange dotsStuffWrong)

/-- 'estafettelaw05.DotsBack': WHATEVER THE INPUT: true; the input reads as it did. -/
def dotsBackSpec : ChangeSpec := { name := "dotsBack", fn := fun _ => fun
  | [d] => { results := [.lit (.bool true)], args := [d] }
  | _ => none }
def dotsBackRow : OpenClaim := { program := "ytpplahmnlgokbaa", sum := "4836d11741cf29dce5beb5668ed4c620e3486d8b1c2352ee1b520df53028d095", func := "estafette/estafettelaw05.DotsBack", spec := "dotsBack", inPlace := ["internal/bytealg.IndexByteString", "internal/abi.NoEscape"], apart := false }
def DotsBackSaid : Prop := dotsBackRow.holds Try.pinned (OpenSpec.ofChange dotsBackSpec)

/-- ITS FALSE NEIGHBOUR: 'it returns false'. Refute it at one input. -/
def dotsBackWrong : ChangeSpec := { name := "dotsBack", fn := fun _ => fun
  | [d] => { results := [.lit (.bool false)], args := [d] }
  | _ => none }
def DotsBackWrongFalsely : Prop := dotsBackRow.holds Try.pinned (OpenSpec.ofChange dotsBackWrong)

/-- 'estafettelaw05.DotsLines': WHATEVER THE INPUT: true; the input reads as it did. -/
def dotsLinesSpec : ChangeSpec := { name := "dotsLines", fn := fun _ => fun
  | [d] => { results := [.lit (.bool true)], args := [d] }
  | _ => none }
def dotsLinesRow : OpenClaim := { program := "ytpplahmnlgokbaa", sum := "4836d11741cf29dce5beb5668ed4c620e3486d8b1c2352ee1b520df53028d095", func := "estafette/estafettelaw05.DotsLines", spec := "dotsLines", inPlace := ["internal/bytealg.IndexByteString", "internal/abi.NoEscape"], apart := false }
def DotsLinesSaid : Prop := dotsLinesRow.holds Try.pinned (OpenSpec.ofChange dotsLinesSpec)

/-- ITS FALSE NEIGHBOUR: 'it returns false'. Refute it at one input. -/
def dotsLinesWrong : ChangeSpec := { name := "dotsLines", fn := fun _ => fun
  | [d] => { results := [.lit (.bool false)], args := [d] }
  | _ => none }
def DotsLinesWrongFalsely : Prop := dotsLinesRow.holds Try.pinned (OpenSpec.ofChange dotsLinesWrong)

/-- 'estafettelaw05.DotsBounds': WHATEVER THE INPUT: true; the input reads as it did. -/
def dotsBoundsSpec : ChangeSpec := { name := "dotsBounds", fn := fun _ => fun
  | [d1, d2] => { results := [.lit (.bool true)], args := [d1, d2] }
  | _ => none }
def dotsBoundsRow : OpenClaim := { program := "ytpplahmnlgokbaa", sum := "4836d11741cf29dce5beb5668ed4c620e3486d8b1c2352ee1b520df53028d095", func := "estafette/estafettelaw05.DotsBounds", spec := "dotsBounds", inPlace := ["internal/bytealg.IndexByteString", "internal/abi.NoEscape"], apart := false }
def DotsBoundsSaid : Prop := dotsBoundsRow.holds Try.pinned (OpenSpec.ofChange dotsBoundsSpec)

/-- ITS FALSE NEIGHBOUR: 'it returns false'. Refute it at one input. -/
def dotsBoundsWrong : ChangeSpec := { name := "dotsBounds", fn := fun _ => fun
  | [d1, d2] => { results := [.lit (.bool false)], args := [d1, d2] }
  | _ => none }
def DotsBoundsWrongFalsely : Prop := dotsBoundsRow.holds Try.pinned (OpenSpec.ofChange dotsBoundsWrong)

/- THE SECOND FORM. 'bulk': how many values and letters a reading holds, each counted each time it is reached (what is shared counts as often as it is met; a slice's spare places count too). A statement '..UptoSaid' is the law's where the arguments, and the package variables that the reading takes, are together of bulk at most 1048576: NARROWER than '..Said'. Prove '..Said' where nothing that the law and all that it calls make is longer than what came in: it says more and counts as full. Else prove '..UptoSaid'. A law counts once. -/
mutual
def uptoBulk {H : Type} : DataW H → Nat
  | .lit (.string bytes) => bytes.length + 1
  | .lit _ => 1
  | .nil => 1
  | .ptr d => uptoBulk d + 1
  | .slice elems spare => uptoBulkAll elems + uptoBulkAll spare + 1
  | .agg parts => uptoBulkAll parts + 1
  | .iface _ d => uptoBulk d + 1
  | .map entries => uptoBulkEntries entries + 1
  | .held _ => 1
def uptoBulkAll {H : Type} : List (DataW H) → Nat
  | [] => 0
  | d :: r => uptoBulk d + uptoBulkAll r
def uptoBulkEntries {H : Type} : List (Lit × DataW H) → Nat
  | [] => 0
  | x :: r => uptoBulkEntry x + uptoBulkEntries r
def uptoBulkEntry {H : Type} : Lit × DataW H → Nat
  | (.string bytes, d) => bytes.length + uptoBulk d + 1
  | (_, d) => uptoBulk d + 1
 end
def uptoSmall : (H : Type) → List (DataW H) → Bool := fun _ ds => decide (uptoBulkAll ds ≤ 1048576)
def OpenSpec.upto (s : _root_.Go.ChangeSpec) : _root_.Go.OpenSpec := { _root_.Go.OpenSpec.ofChange s with cond := some uptoSmall }

/-- 'estafettelaw05.DotsStuff', WHERE WHAT IT READS IS OF BULK AT MOST 1048576: true; the input reads as it did. -/
def dotsStuffUptoRow : OpenClaim := { program := "ytpplahmnlgokbaa", sum := "4836d11741cf29dce5beb5668ed4c620e3486d8b1c2352ee1b520df53028d095", func := "estafette/estafettelaw05.DotsStuff", spec := "dotsStuff", inPlace := ["internal/bytealg.IndexByteString", "internal/abi.NoEscape"], apart := false, narrowed := true }
def DotsStuffUptoSaid : Prop := dotsStuffUptoRow.holds Try.pinned (OpenSpec.upto dotsStuffSpec)

/-- 'estafettelaw05.DotsBack', WHERE WHAT IT READS IS OF BULK AT MOST 1048576: true; the input reads as it did. -/
def dotsBackUptoRow : OpenClaim := { program := "ytpplahmnlgokbaa", sum := "4836d11741cf29dce5beb5668ed4c620e3486d8b1c2352ee1b520df53028d095", func := "estafette/estafettelaw05.DotsBack", spec := "dotsBack", inPlace := ["internal/bytealg.IndexByteString", "internal/abi.NoEscape"], apart := false, narrowed := true }
def DotsBackUptoSaid : Prop := dotsBackUptoRow.holds Try.pinned (OpenSpec.upto dotsBackSpec)

/-- 'estafettelaw05.DotsLines', WHERE WHAT IT READS IS OF BULK AT MOST 1048576: true; the input reads as it did. -/
def dotsLinesUptoRow : OpenClaim := { program := "ytpplahmnlgokbaa", sum := "4836d11741cf29dce5beb5668ed4c620e3486d8b1c2352ee1b520df53028d095", func := "estafette/estafettelaw05.DotsLines", spec := "dotsLines", inPlace := ["internal/bytealg.IndexByteString", "internal/abi.NoEscape"], apart := false, narrowed := true }
def DotsLinesUptoSaid : Prop := dotsLinesUptoRow.holds Try.pinned (OpenSpec.upto dotsLinesSpec)

/-- 'estafettelaw05.DotsBounds', WHERE WHAT IT READS IS OF BULK AT MOST 1048576: true; the input reads as it did. -/
def dotsBoundsUptoRow : OpenClaim := { program := "ytpplahmnlgokbaa", sum := "4836d11741cf29dce5beb5668ed4c620e3486d8b1c2352ee1b520df53028d095", func := "estafette/estafettelaw05.DotsBounds", spec := "dotsBounds", inPlace := ["internal/bytealg.IndexByteString", "internal/abi.NoEscape"], apart := false, narrowed := true }
def DotsBoundsUptoSaid : Prop := dotsBoundsUptoRow.holds Try.pinned (OpenSpec.upto dotsBoundsSpec)

end Rows
end Go.Proofs.Ytpplahmnlgokbaa
