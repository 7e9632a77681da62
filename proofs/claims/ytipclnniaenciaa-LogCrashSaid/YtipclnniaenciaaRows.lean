/-
  No cell of these rows narrows 'for every input' (looked for: loops, veiled, ifaces, maps, wideKeys, modest, calm, conditions, laid).
  DERIVED. THE GIVEN ROWS OF THIS SEAT. 5 by the template 'for every input the law returns true; each argument reads behind the call as it read before'; 0 by the template 'total and deterministic' (their statements: YtipclnniaenciaaTotals.lean).
  GIVEN WITH THE SEED: the statements are not yours to turn. If you find one false, say at which input.
  Laid BY PROGRAM, IN A SANDBOX (cutbox-rows.mjs): the forced cells as the released guide's own fill.sh prints them over the translation a99d665edff8658a… (all of the seat's roots in one cut). By AI agents, Wed Nov 11 2026. No macro, syntax, notation, axiom, sorry.
-/
import Derived.Test.YtipclnniaenciaaChecked
import GoSem.Claim
import GoSem.ClaimJoined
import GoSem.ClaimMapViews
import Derived.JoinedTies
import Derived.KernelRfl
namespace Go.Proofs.Ytipclnniaenciaa
/- THE CELL 'sum', in the pinned program and in every row, IS THE sha256 OF THE DUMP (.gsa) THAT YtipclnniaenciaaProg.lean LOADS. Nothing in Lean hashes anything: it is a label: what it is worth is what the hold of that sum in a sandbox is worth. -/
noncomputable def Try.pinned : Pinned := { name := "ytipclnniaenciaa", sum := "a99d665edff8658afcb1a3bb6d7c26f2577e2ff73123efc53ff26e62d3fae6ee", checked := Try.checked }
namespace Rows
def none {H : Type} : Left H := { results := [], args := [] }

/-- 'estafettelaw10.LogTorn': WHATEVER THE INPUT: true; the input reads as it did. -/
def logTornSpec : ChangeSpec := { name := "logTorn", fn := fun _ => fun
  | [d1, d2] => { results := [.lit (.bool true)], args := [d1, d2] }
  | _ => none }
def logTornRow : OpenClaim := { program := "ytipclnniaenciaa", sum := "a99d665edff8658afcb1a3bb6d7c26f2577e2ff73123efc53ff26e62d3fae6ee", func := "estafette/estafettelaw10.LogTorn", spec := "logTorn", unfollowed := true, recurses := true, apart := false }
def LogTornSaid : Prop := logTornRow.holds Try.pinned (OpenSpec.ofChange logTornSpec)

/-- ITS FALSE NEIGHBOUR: 'it returns false'. Refute it at one input. -/
def logTornWrong : ChangeSpec := { name := "logTorn", fn := fun _ => fun
  | [d1, d2] => { results := [.lit (.bool false)], args := [d1, d2] }
  | _ => none }
def LogTornWrongFalsely : Prop := logTornRow.holds Try.pinned (OpenSpec.ofChange logTornWrong)

/-- 'estafettelaw10.LogLies': WHATEVER THE INPUT: true; the input reads as it did. -/
def logLiesSpec : ChangeSpec := { name := "logLies", fn := fun _ => fun
  | [d1, d2] => { results := [.lit (.bool true)], args := [d1, d2] }
  | _ => none }
def logLiesRow : OpenClaim := { program := "ytipclnniaenciaa", sum := "a99d665edff8658afcb1a3bb6d7c26f2577e2ff73123efc53ff26e62d3fae6ee", func := "estafette/estafettelaw10.LogLies", spec := "logLies", unfollowed := true, recurses := true, apart := false }
def LogLiesSaid : Prop := logLiesRow.holds Try.pinned (OpenSpec.ofChange logLiesSpec)

/-- ITS FALSE NEIGHBOUR: 'it returns false'. Refute it at one input. -/
def logLiesWrong : ChangeSpec := { name := "logLies", fn := fun _ => fun
  | [d1, d2] => { results := [.lit (.bool false)], args := [d1, d2] }
  | _ => none }
def LogLiesWrongFalsely : Prop := logLiesRow.holds Try.pinned (OpenSpec.ofChange logLiesWrong)

/-- 'estafettelaw10.LogNone': WHATEVER THE INPUT: true; the input reads as it did. -/
def logNoneSpec : ChangeSpec := { name := "logNone", fn := fun _ => fun
  | [d1, d2] => { results := [.lit (.bool true)], args := [d1, d2] }
  | _ => none }
def logNoneRow : OpenClaim := { program := "ytipclnniaenciaa", sum := "a99d665edff8658afcb1a3bb6d7c26f2577e2ff73123efc53ff26e62d3fae6ee", func := "estafette/estafettelaw10.LogNone", spec := "logNone", unfollowed := true, recurses := true, apart := false }
def LogNoneSaid : Prop := logNoneRow.holds Try.pinned (OpenSpec.ofChange logNoneSpec)

/-- ITS FALSE NEIGHBOUR: 'it returns false'. Refute it at one input. -/
def logNoneWrong : ChangeSpec := { name := "logNone", fn := fun _ => fun
  | [d1, d2] => { results := [.lit (.bool false)], args := [d1, d2] }
  | _ => none }
def LogNoneWrongFalsely : Prop := logNoneRow.holds Try.pinned (OpenSpec.ofChange logNoneWrong)

/-- 'estafettelaw10.LogFull': WHATEVER THE INPUT: true; the input reads as it did. -/
def logFullSpec : ChangeSpec := { name := "logFull", fn := fun _ => fun
  | [d1, d2, d3] => { results := [.lit (.bool true)], args := [d1, d2, d3] }
  | _ => none }
def logFullRow : OpenClaim := { program := "ytipclnniaenciaa", sum := "a99d665edff8658afcb1a3bb6d7c26f2577e2ff73123efc53ff26e62d3fae6ee", func := "estafette/estafettelaw10.LogFull", spec := "logFull", unfollowed := true, recurses := true, apart := false }
def LogFullSaid : Prop := logFullRow.holds Try.pinned (OpenSpec.ofChange logFullSpec)

/-- ITS FALSE NEIGHBOUR: 'it returns false'. Refute it at one input. -/
def logFullWrong : ChangeSpec := { name := "logFull", fn := fun _ => fun
  | [d1, d2, d3] => { results := [.lit (.bool false)], args := [d1, d2, d3] }
  | _ => none }
def LogFullWrongFalsely : Prop := logFullRow.holds Try.pinned (OpenSpec.ofChange logFullWrong)

/-- 'estafettelaw10.LogCrash': WHATEVER THE INPUT: true; the input reads as it did. -/
def logCrashSpec : ChangeSpec := { name := "logCrash", fn := fun _ => fun
  | [d1, d2, d3, d4, d5] => { results := [.lit (.bool true)], args := [d1, d2, d3, d4, d5] }
  | _ => none }
def logCrashRow : OpenClaim := { program := "ytipclnniaenciaa", sum := "a99d665edff8658afcb1a3bb6d7c26f2577e2ff73123efc53ff26e62d3fae6ee", func := "estafette/estafettelaw10.LogCrash", spec := "logCrash", unfollowed := true, recurses := true, apart := false }
def LogCrashSaid : Prop := logCrashRow.holds Try.pinned (OpenSpec.ofChange logCrashSpec)

/-- ITS FALSE NEIGHBOUR: 'it returns false'. Refute it at one input. -/
def logCrashWrong : ChangeSpec := { name := "logCrash", fn := fun _ => fun
  | [d1, d2, d3, d4, d5] => { results := [.lit (.bool false)], args := [d1, d2, d3, d4, d5] }
  | _ => none }
def LogCrashWrongFalsely : Prop := logCrashRow.holds Try.pinned (OpenSpec.ofChange logCrashWrong)

/- THE SECOND FORM. 'bulk': how many values and letters a reading holds, each counted each time it is reached (what is shared counts as often as it is met; a slice's spare places count too). A statement '..UptoSaid' is the law's where the arguments, and the package variables that the reading takes, are together of bulk at most 1048576: NARROWER than '..Said'. Prove '..Said' where nothing that the law and all that it calls make is longer than what came in: it says more and counts as full. Else prove '..UptoSaid'. A law counts once. -/
mutual
def uptoBulk {H : Type} : DataW H → Nat
  | .lit (.string bytes) => bytes.length + 1
  | .lit _ => 1
  | .nil => 1
  | .ptr d => uptoBulk d + 1
  | .slice elems spare => uptoBulkAll elems + uptoBulkAll spare + 1
  | .agg parts => uptoBulkAll parts + 1
  | .iface _ d => uptoBulk d + 1
  | .map entries => uptoBulkEntries entries + 1
  | .held _ => 1
def uptoBulkAll {H : Type} : List (DataW H) → Nat
  | [] => 0
  | d :: r => uptoBulk d + uptoBulkAll r
def uptoBulkEntries {H : Type} : List (Lit × DataW H) → Nat
  | [] => 0
  | x :: r => uptoBulkEntry x + uptoBulkEntries r
def uptoBulkEntry {H : Type} : Lit × DataW H → Nat
  | (.string bytes, d) => bytes.length + uptoBulk d + 1
  | (_, d) => uptoBulk d + 1
 end
def uptoSmall : (H : Type) → List (DataW H) → Bool := fun _ ds => decide (uptoBulkAll ds ≤ 1048576)
def OpenSpec.upto (s : _root_.Go.ChangeSpec) : _root_.Go.OpenSpec := { _root_.Go.OpenSpec.ofChange s with cond := some uptoSmall }

/-- 'estafettelaw10.LogTorn', WHERE WHAT IT READS IS OF BULK AT MOST 1048576: true; the input reads as it did. -/
def logTornUptoRow : OpenClaim := { program := "ytipclnniaenciaa", sum := "a99d665edff8658afcb1a3bb6d7c26f2577e2ff73123efc53ff26e62d3fae6ee", func := "estafette/estafettelaw10.LogTorn", spec := "logTorn", unfollowed := true, recurses := true, apart := false, narrowed := true }
def LogTornUptoSaid : Prop := logTornUptoRow.holds Try.pinned (OpenSpec.upto logTornSpec)

/-- 'estafettelaw10.LogLies', WHERE WHAT IT READS IS OF BULK AT MOST 1048576: true; the input reads as it did. -/
def logLiesUptoRow : OpenClaim := { program := "ytipclnniaenciaa", sum := "a99d665edff8658afcb1a3bb6d7c26f2577e2ff73123efc53ff26e62d3fae6ee", func := "estafette/estafettelaw10.LogLies", spec := "logLies", unfollowed := true, recurses := true, apart := false, narrowed := true }
def LogLiesUptoSaid : Prop := logLiesUptoRow.holds Try.pinned (OpenSpec.upto logLiesSpec)

/-- 'estafettelaw10.LogNone', WHERE WHAT IT READS IS OF BULK AT MOST 1048576: true; the input reads as it did. -/
def logNoneUptoRow : OpenClaim := { program := "ytipclnniaenciaa", sum := "a99d665edff8658afcb1a3bb6d7c26f2577e2ff73123efc53ff26e62d3fae6ee", func := "estafette/estafettelaw10.LogNone", spec := "logNone", unfollowed := true, recurses := true, apart := false, narrowed := true }
def LogNoneUptoSaid : Prop := logNoneUptoRow.holds Try.pinned (OpenSpec.upto logNoneSpec)

/-- 'estafettelaw10.LogFull', WHERE WHAT IT READS IS OF BULK AT MOST 1048576: true; the input reads as it did. -/
def logFullUptoRow : OpenClaim := { program := "ytipclnniaenciaa", sum := "a99d665edff8658afcb1a3bb6d7c26f2577e2ff73123efc53ff26e62d3fae6ee", func := "estafette/estafettelaw10.LogFull", spec := "logFull", unfollowed := true, recurses := true, apart := false, narrowed := true }
def LogFullUptoSaid : Prop := logFullUptoRow.holds Try.pinned (OpenSpec.upto logFullSpec)

/-- 'estafettelaw10.LogCrash', WHERE WHAT IT READS IS OF BULK AT MOST 1048576: true; the input reads as it did. -/
def logCrashUptoRow : OpenClaim := { program := "ytipclnniaenciaa", sum := "a99d665edff8658afcb1a3bb6d7c26f2577e2ff73123efc53ff26e62d3fae6ee", func := "estafette/estafettelaw10.LogCrash", spec := "logCrash", unfollowed := true, recurses := true, apart := false, narrowed := true }
def LogCrashUptoSaid : Prop := logCrashUptoRow.holds Try.pinned (OpenSpec.upto logCrashSpec)

end Rows
end Go.Proofs.Ytipclnniaenciaa
