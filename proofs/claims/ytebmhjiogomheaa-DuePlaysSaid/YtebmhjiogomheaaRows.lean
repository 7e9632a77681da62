/-
  No cell of these rows narrows 'for every input' (looked for: loops, veiled, ifaces, maps, wideKeys, modest, calm, conditions, laid).
  DERIVED. THE GIVEN ROWS OF THIS SEAT. 5 by the template 'for every input the law returns true; each argument reads behind the call as it read before'; 0 by the template 'total and deterministic' (their statements: YtebmhjiogomheaaTotals.lean).
  GIVEN WITH THE SEED: the statements are not yours to turn. If you find one false, say at which input.
  Laid BY PROGRAM, IN A SANDBOX (cutbox-rows.mjs): the forced cells as the released guide's own fill.sh prints them over the translation 0c4409ca6960acc7… (all of the seat's roots in one cut). By AI agents, Wed Nov 11 2026. No macro, syntax, notation, axiom, sorry.
-/
import Derived.Test.YtebmhjiogomheaaChecked
import GoSem.Claim
import GoSem.ClaimJoined
import GoSem.ClaimMapViews
import Derived.JoinedTies
import Derived.KernelRfl
namespace Go.Proofs.Ytebmhjiogomheaa
/- THE CELL 'sum', in the pinned program and in every row, IS THE sha256 OF THE DUMP (.gsa) THAT YtebmhjiogomheaaProg.lean LOADS. Nothing in Lean hashes anything: it is a label: what it is worth is what the hold of that sum in a sandbox is worth. -/
noncomputable def Try.pinned : Pinned := { name := "ytebmhjiogomheaa", sum := "0c4409ca6960acc70f5d24937034858a321dbb37b1de76f81da9c766f52e9d8b", checked := Try.checked }
namespace Rows
def none {H : Type} : Left H := { results := [], args := [] }

/-- 'estafettelaw21.DuePlays': WHATEVER THE INPUT: true; the input reads as it did. -/
def duePlaysSpec : ChangeSpec := { name := "duePlays", fn := fun _ => fun
  | [d1, d2] => { results := [.lit (.bool true)], args := [d1, d2] }
  | _ => none }
def duePlaysRow : OpenClaim := { program := "ytebmhjiogomheaa", sum := "0c4409ca6960acc70f5d24937034858a321dbb37b1de76f81da9c766f52e9d8b", func := "estafette/estafettelaw21.DuePlays", spec := "duePlays", unfollowed := true, recurses := true, apart := false }
def DuePlaysSaid : Prop := duePlaysRow.holds Try.pinned (OpenSpec.ofChange duePlaysSpec)

/-- ITS FALSE NEIGHBOUR: 'it returns false'. Refute it at one input. -/
def duePlaysWrong : ChangeSpec := { name := "duePlays", fn := fun _ => fun
  | [d1, d2] => { results := [.lit (.bool false)], args := [d1, d2] }
  | _ => none }
def DuePlaysWrongFalsely : Prop := duePlaysRow.holds Try.pinned (OpenSpec.ofChange duePlaysWrong)

/-- 'estafettelaw21.DueOrder': WHATEVER THE INPUT: true; the input reads as it did. -/
def dueOrderSpec : ChangeSpec := { name := "dueOrder", fn := fun _ => fun
  | [d] => { results := [.lit (.bool true)], args := [d] }
  | _ => none }
def dueOrderRow : OpenClaim := { program := "ytebmhjiogomheaa", sum := "0c4409ca6960acc70f5d24937034858a321dbb37b1de76f81da9c766f52e9d8b", func := "estafette/estafettelaw21.DueOrder", spec := "dueOrder", unfollowed := true, recurses := true, apart := false }
def DueOrderSaid : Prop := dueOrderRow.holds Try.pinned (OpenSpec.ofChange dueOrderSpec)

/-- ITS FALSE NEIGHBOUR: 'it returns false'. Refute it at one input. -/
def dueOrderWrong : ChangeSpec := { name := "dueOrder", fn := fun _ => fun
  | [d] => { results := [.lit (.bool false)], args := [d] }
  | _ => none }
def DueOrderWrongFalsely : Prop := dueOrderRow.holds Try.pinned (OpenSpec.ofChange dueOrderWrong)

/-- 'estafettelaw21.DueNone': WHATEVER THE INPUT: true; the input reads as it did. -/
def dueNoneSpec : ChangeSpec := { name := "dueNone", fn := fun _ => fun
  | [d] => { results := [.lit (.bool true)], args := [d] }
  | _ => none }
def dueNoneRow : OpenClaim := { program := "ytebmhjiogomheaa", sum := "0c4409ca6960acc70f5d24937034858a321dbb37b1de76f81da9c766f52e9d8b", func := "estafette/estafettelaw21.DueNone", spec := "dueNone", unfollowed := true, recurses := true, apart := false }
def DueNoneSaid : Prop := dueNoneRow.holds Try.pinned (OpenSpec.ofChange dueNoneSpec)

/-- ITS FALSE NEIGHBOUR: 'it returns false'. Refute it at one input. -/
def dueNoneWrong : ChangeSpec := { name := "dueNone", fn := fun _ => fun
  | [d] => { results := [.lit (.bool false)], args := [d] }
  | _ => none }
def DueNoneWrongFalsely : Prop := dueNoneRow.holds Try.pinned (OpenSpec.ofChange dueNoneWrong)

/-- 'estafettelaw21.DueAgain': WHATEVER THE INPUT: true; the input reads as it did. -/
def dueAgainSpec : ChangeSpec := { name := "dueAgain", fn := fun _ => fun
  | [d1, d2, d3] => { results := [.lit (.bool true)], args := [d1, d2, d3] }
  | _ => none }
def dueAgainRow : OpenClaim := { program := "ytebmhjiogomheaa", sum := "0c4409ca6960acc70f5d24937034858a321dbb37b1de76f81da9c766f52e9d8b", func := "estafette/estafettelaw21.DueAgain", spec := "dueAgain", unfollowed := true, recurses := true, apart := false }
def DueAgainSaid : Prop := dueAgainRow.holds Try.pinned (OpenSpec.ofChange dueAgainSpec)

/-- ITS FALSE NEIGHBOUR: 'it returns false'. Refute it at one input. -/
def dueAgainWrong : ChangeSpec := { name := "dueAgain", fn := fun _ => fun
  | [d1, d2, d3] => { results := [.lit (.bool false)], args := [d1, d2, d3] }
  | _ => none }
def DueAgainWrongFalsely : Prop := dueAgainRow.holds Try.pinned (OpenSpec.ofChange dueAgainWrong)

/-- 'estafettelaw21.DueTimes': WHATEVER THE INPUT: true; the input reads as it did. -/
def dueTimesSpec : ChangeSpec := { name := "dueTimes", fn := fun _ => fun
  | [d] => { results := [.lit (.bool true)], args := [d] }
  | _ => none }
def dueTimesRow : OpenClaim := { program := "ytebmhjiogomheaa", sum := "0c4409ca6960acc70f5d24937034858a321dbb37b1de76f81da9c766f52e9d8b", func := "estafette/estafettelaw21.DueTimes", spec := "dueTimes", unfollowed := true, recurses := true, apart := false }
def DueTimesSaid : Prop := dueTimesRow.holds Try.pinned (OpenSpec.ofChange dueTimesSpec)

/-- ITS FALSE NEIGHBOUR: 'it returns false'. Refute it at one input. -/
def dueTimesWrong : ChangeSpec := { name := "dueTimes", fn := fun _ => fun
  | [d] => { results := [.lit (.bool false)], args := [d] }
  | _ => none }
def DueTimesWrongFalsely : Prop := dueTimesRow.holds Try.pinned (OpenSpec.ofChange dueTimesWrong)

/- THE SECOND FORM. 'bulk': how many values and letters a reading holds, each counted each time it is reached (what is shared counts as often as it is met; a slice's spare places count too). A statement '..UptoSaid' is the law's where the arguments, and the package variables that the reading takes, are together of bulk at most 1048576: NARROWER than '..Said'. Prove '..Said' where nothing that the law and all that it calls make is longer than what came in: it says more and counts as full. Else prove '..UptoSaid'. A law counts once. -/
mutual
def uptoBulk {H : Type} : DataW H → Nat
  | .lit (.string bytes) => bytes.length + 1
  | .lit _ => 1
  | .nil => 1
  | .ptr d => uptoBulk d + 1
  | .slice elems spare => uptoBulkAll elems + uptoBulkAll spare + 1
  | .agg parts => uptoBulkAll parts + 1
  | .iface _ d => uptoBulk d + 1
  | .map entries => uptoBulkEntries entries + 1
  | .held _ => 1
def uptoBulkAll {H : Type} : List (DataW H) → Nat
  | [] => 0
  | d :: r => uptoBulk d + uptoBulkAll r
def uptoBulkEntries {H : Type} : List (Lit × DataW H) → Nat
  | [] => 0
  | x :: r => uptoBulkEntry x + uptoBulkEntries r
def uptoBulkEntry {H : Type} : Lit × DataW H → Nat
  | (.string bytes, d) => bytes.length + uptoBulk d + 1
  | (_, d) => uptoBulk d + 1
 end
def uptoSmall : (H : Type) → List (DataW H) → Bool := fun _ ds => decide (uptoBulkAll ds ≤ 1048576)
def OpenSpec.upto (s : _root_.Go.ChangeSpec) : _root_.Go.OpenSpec := { _root_.Go.OpenSpec.ofChange s with cond := some uptoSmall }

/-- 'estafettelaw21.DuePlays', WHERE WHAT IT READS IS OF BULK AT MOST 1048576: true; the input reads as it did. -/
def duePlaysUptoRow : OpenClaim := { program := "ytebmhjiogomheaa", sum := "0c4409ca6960acc70f5d24937034858a321dbb37b1de76f81da9c766f52e9d8b", func := "estafette/estafettelaw21.DuePlays", spec := "duePlays", unfollowed := true, recurses := true, apart := false, narrowed := true }
def DuePlaysUptoSaid : Prop := duePlaysUptoRow.holds Try.pinned (OpenSpec.upto duePlaysSpec)

/-- 'estafettelaw21.DueOrder', WHERE WHAT IT READS IS OF BULK AT MOST 1048576: true; the input reads as it did. -/
def dueOrderUptoRow : OpenClaim := { program := "ytebmhjiogomheaa", sum := "0c4409ca6960acc70f5d24937034858a321dbb37b1de76f81da9c766f52e9d8b", func := "estafette/estafettelaw21.DueOrder", spec := "dueOrder", unfollowed := true, recurses := true, apart := false, narrowed := true }
def DueOrderUptoSaid : Prop := dueOrderUptoRow.holds Try.pinned (OpenSpec.upto dueOrderSpec)

/-- 'estafettelaw21.DueNone', WHERE WHAT IT READS IS OF BULK AT MOST 1048576: true; the input reads as it did. -/
def dueNoneUptoRow : OpenClaim := { program := "ytebmhjiogomheaa", sum := "0c4409ca6960acc70f5d24937034858a321dbb37b1de76f81da9c766f52e9d8b", func := "estafette/estafettelaw21.DueNone", spec := "dueNone", unfollowed := true, recurses := true, apart := false, narrowed := true }
def DueNoneUptoSaid : Prop := dueNoneUptoRow.holds Try.pinned (OpenSpec.upto dueNoneSpec)

/-- 'estafettelaw21.DueAgain', WHERE WHAT IT READS IS OF BULK AT MOST 1048576: true; the input reads as it did. -/
def dueAgainUptoRow : OpenClaim := { program := "ytebmhjiogomheaa", sum := "0c4409ca6960acc70f5d24937034858a321dbb37b1de76f81da9c766f52e9d8b", func := "estafette/estafettelaw21.DueAgain", spec := "dueAgain", unfollowed := true, recurses := true, apart := false, narrowed := true }
def DueAgainUptoSaid : Prop := dueAgainUptoRow.holds Try.pinned (OpenSpec.upto dueAgainSpec)

/-- 'estafettelaw21.DueTimes', WHERE WHAT IT READS IS OF BULK AT MOST 1048576: true; the input reads as it did. -/
def dueTimesUptoRow : OpenClaim := { program := "ytebmhjiogomheaa", sum := "0c4409ca6960acc70f5d24937034858a321dbb37b1de76f81da9c766f52e9d8b", func := "estafette/estafettelaw21.DueTimes", spec := "dueTimes", unfollowed := true, recurses := true, apart := false, narrowed := true }
def DueTimesUptoSaid : Prop := dueTimesUptoRow.holds Try.pinned (OpenSpec.upto dueTimesSpec)

end Rows
end Go.Proofs.Ytebmhjiogomheaa
