/-
  NARROWER THAN 'FOR EVERY INPUT', by the rows' own cells (each row's printed sentence says how): AddrNames: laid · AddrPaths: laid · AddrTwice: laid · AddrRoutes: laid · AddrLengths: laid.
  DERIVED. THE GIVEN ROWS OF THIS SEAT. 5 by the template 'for every input the law returns true; each argument reads behind the call as it read before'; 0 by the template 'total and deterministic' (their statements: YtikfdngidbppbaaDoorTotals.lean).
  GIVEN WITH THE SEED: the statements are not yours to turn. If you find one false, say at which input.
  Laid BY PROGRAM, IN A SANDBOX (cutbox-rows.mjs): the forced cells as the released guide's own fill.sh prints them over the translation b43a2f7e9ba49818… (all of the seat's roots in one cut). By AI agents, Wed Nov 11 2026. No macro, syntax, notation, axiom, sorry.
-/
import Derived.Test.YtikfdngidbppbaaDoorChecked
import GoSem.PinnedTables
import GoSem.Claim
import GoSem.ClaimJoined
import GoSem.ClaimMapViews
import Derived.JoinedTies
import Derived.KernelRfl
namespace Go.Proofs.YtikfdngidbppbaaDoor
/- THE CELL 'sum', in the pinned program and in every row, IS THE sha256 OF THE DUMP (.gsa) THAT YtikfdngidbppbaaDoorProg.lean LOADS. Nothing in Lean hashes anything: it is a label: what it is worth is what the hold of that sum in a sandbox is worth. -/
noncomputable def Tryd.pinned : Pinned := { name := "ytikfdngidbppbaadoor", sum := "b43a2f7e9ba49818dadd4d32a05f1db246ba362750d7f87e76ca7b492b4c75f5", checked := Tryd.checked }
namespace Rows
def none {H : Type} : Left H := { results := [], args := [] }

/- WHAT THE LISTED PACKAGE-LEVEL VARIABLES READ AS WHEN THE CALL BEGINS. Each datum BY PROGRAM (the guide's laid-datum.mjs) off the statement by which the dump's own 'gosem.cut.vars' lays the variable. In a bare row this is a premise. The card (YtikfdngidbppbaaDoorCards.lean) ties it to the program's text. -/
def laid_unicode_utf8_acceptRanges {H : Type} : DataW H := .agg [.agg [.lit (.int .u8 128), .lit (.int .u8 191)], .agg [.lit (.int .u8 160), .lit (.int .u8 191)], .agg [.lit (.int .u8 128), .lit (.int .u8 159)], .agg [.lit (.int .u8 144), .lit (.int .u8 191)], .agg [.lit (.int .u8 128), .lit (.int .u8 143)], .agg [.lit (.int .u8 0), .lit (.int .u8 0)], .agg [.lit (.int .u8 0), .lit (.int .u8 0)], .agg [.lit (.int .u8 0), .lit (.int .u8 0)], .agg [.lit (.int .u8 0), .lit (.int .u8 0)], .agg [.lit (.int .u8 0), .lit (.int .u8 0)], .agg [.lit (.int .u8 0), .lit (.int .u8 0)], .agg [.lit (.int .u8 0), .lit (.int .u8 0)], .agg [.lit (.int .u8 0), .lit (.int .u8 0)], .agg [.lit (.int .u8 0), .lit (.int .u8 0)], .agg [.lit (.int .u8 0), .lit (.int .u8 0)], .agg [.lit (.int .u8 0), .lit (.int .u8 0)]]
/-- One of Go's own tables, pinned by name: the form's constant. -/
def laid_unicode_utf8_first : DataW Unit := Go.Pinned.utf8First

/-- 'estafettelaw01.AddrNames': WHATEVER THE INPUT: true; the input reads as it did. -/
def addrNamesSpec : ChangeSpec := { name := "addrNames", fn := fun _ => fun
  | [d] => { results := [.lit (.bool true)], args := [d] }
  | _ => none }
def addrNamesRow : OpenClaim := { program := "ytikfdngidbppbaadoor", sum := "b43a2f7e9ba49818dadd4d32a05f1db246ba362750d7f87e76ca7b492b4c75f5", func := "estafette/estafettelaw01.AddrNames", spec := "addrNames", inPlace := ["internal/bytealg.IndexByteString", "internal/bytealg.IndexString", "internal/bytealg.CountString"], unfollowed := true, recurses := true, named := ["internal/bytealg.MaxLen", "unicode/utf8.first", "unicode/utf8.acceptRanges"], apart := false, laid := [("unicode/utf8.acceptRanges", laid_unicode_utf8_acceptRanges), ("unicode/utf8.first", laid_unicode_utf8_first)] }
def AddrNamesSaid : Prop := addrNamesRow.holds Tryd.pinned (OpenSpec.ofChange addrNamesSpec)

/-- ITS FALSE NEIGHBOUR: 'it returns false'. Refute it at one input. -/
def addrNamesWrong : ChangeSpec := { name := "addrNames", fn := fun _ => fun
  | [d] => { results := [.lit (.bool false)], args := [d] }
  | _ => none }
def AddrNamesWrongFalsely : Prop := addrNamesRow.holds Tryd.pinned (OpenSpec.ofChange addrNamesWrong)

/-- 'estafettelaw01.AddrPaths': WHATEVER THE INPUT: true; the input reads as it did. -/
def addrPathsSpec : ChangeSpec := { name := "addrPaths", fn := fun _ => fun
  | [d] => { results := [.lit (.bool true)], args := [d] }
  | _ => none }
def addrPathsRow : OpenClaim := { program := "ytikfdngidbppbaadoor", sum := "b43a2f7e9ba49818dadd4d32a05f1db246ba362750d7f87e76ca7b492b4c75f5", func := "estafette/estafettelaw01.AddrPaths", spec := "addrPaths", inPlace := ["internal/bytealg.IndexByteString", "internal/bytealg.IndexString", "internal/bytealg.CountString"], unfollowed := true, recurses := true, named := ["internal/bytealg.MaxLen", "unicode/utf8.first", "unicode/utf8.acceptRanges"], apart := false, laid := [("unicode/utf8.acceptRanges", laid_unicode_utf8_acceptRanges), ("unicode/utf8.first", laid_unicode_utf8_first)] }
def AddrPathsSaid : Prop := addrPathsRow.holds Tryd.pinned (OpenSpec.ofChange addrPathsSpec)

/-- ITS FALSE NEIGHBOUR: 'it returns false'. Refute it at one input. -/
def addrPathsWrong : ChangeSpec := { name := "addrPaths", fn := fun _ => fun
  | [d] => { results := [.lit (.bool false)], args := [d] }
  | _ => none }
def AddrPathsWrongFalsely : Prop := addrPathsRow.holds Tryd.pinned (OpenSpec.ofChange addrPathsWrong)

/-- 'estafettelaw01.AddrTwice': WHATEVER THE INPUT: true; the input reads as it did. -/
def addrTwiceSpec : ChangeSpec := { name := "addrTwice", fn := fun _ => fun
  | [d1, d2] => { results := [.lit (.bool true)], args := [d1, d2] }
  | _ => none }
def addrTwiceRow : OpenClaim := { program := "ytikfdngidbppbaadoor", sum := "b43a2f7e9ba49818dadd4d32a05f1db246ba362750d7f87e76ca7b492b4c75f5", func := "estafette/estafettelaw01.AddrTwice", spec := "addrTwice", inPlace := ["internal/bytealg.IndexByteString", "internal/bytealg.IndexString", "internal/bytealg.CountString"], unfollowed := true, recurses := true, named := ["internal/bytealg.MaxLen", "unicode/utf8.first", "unicode/utf8.acceptRanges"], apart := false, laid := [("unicode/utf8.acceptRanges", laid_unicode_utf8_acceptRanges), ("unicode/utf8.first", laid_unicode_utf8_first)] }
def AddrTwiceSaid : Prop := addrTwiceRow.holds Tryd.pinned (OpenSpec.ofChange addrTwiceSpec)

/-- ITS FALSE NEIGHBOUR: 'it returns false'. Refute it at one input. -/
def addrTwiceWrong : ChangeSpec := { name := "addrTwice", fn := fun _ => fun
  | [d1, d2] => { results := [.lit (.bool false)], args := [d1, d2] }
  | _ => none }
def AddrTwiceWrongFalsely : Prop := addrTwiceRow.holds Tryd.pinned (OpenSpec.ofChange addrTwiceWrong)

/-- 'estafettelaw01.AddrRoutes': WHATEVER THE INPUT: true; the input reads as it did. -/
def addrRoutesSpec : ChangeSpec := { name := "addrRoutes", fn := fun _ => fun
  | [d1, d2] => { results := [.lit (.bool true)], args := [d1, d2] }
  | _ => none }
def addrRoutesRow : OpenClaim := { program := "ytikfdngidbppbaadoor", sum := "b43a2f7e9ba49818dadd4d32a05f1db246ba362750d7f87e76ca7b492b4c75f5", func := "estafette/estafettelaw01.AddrRoutes", spec := "addrRoutes", inPlace := ["internal/bytealg.IndexByteString", "internal/bytealg.IndexString", "internal/bytealg.CountString"], unfollowed := true, recurses := true, named := ["internal/bytealg.MaxLen", "unicode/utf8.first", "unicode/utf8.acceptRanges"], apart := false, laid := [("unicode/utf8.acceptRanges", laid_unicode_utf8_acceptRanges), ("unicode/utf8.first", laid_unicode_utf8_first)] }
def AddrRoutesSaid : Prop := addrRoutesRow.holds Tryd.pinned (OpenSpec.ofChange addrRoutesSpec)

/-- ITS FALSE NEIGHBOUR: 'it returns false'. Refute it at one input. -/
def addrRoutesWrong : ChangeSpec := { name := "addrRoutes", fn := fun _ => fun
  | [d1, d2] => { results := [.lit (.bool false)], args := [d1, d2] }
  | _ => none }
def AddrRoutesWrongFalsely : Prop := addrRoutesRow.holds Tryd.pinned (OpenSpec.ofChange addrRoutesWrong)

/-- 'estafettelaw01.AddrLengths': WHATEVER THE INPUT: true; the input reads as it did. -/
def addrLengthsSpec : ChangeSpec := { name := "addrLengths", fn := fun _ => fun
  | [d1, d2] => { results := [.lit (.bool true)], args := [d1, d2] }
  | _ => none }
def addrLengthsRow : OpenClaim := { program := "ytikfdngidbppbaadoor", sum := "b43a2f7e9ba49818dadd4d32a05f1db246ba362750d7f87e76ca7b492b4c75f5", func := "estafette/estafettelaw01.AddrLengths", spec := "addrLengths", inPlace := ["internal/bytealg.IndexByteString", "internal/bytealg.IndexString", "internal/bytealg.CountString"], unfollowed := true, recurses := true, named := ["internal/bytealg.MaxLen", "unicode/utf8.first", "unicode/utf8.acceptRanges"], apart := false, laid := [("unicode/utf8.acceptRanges", laid_unicode_utf8_acceptRanges), ("unicode/utf8.first", laid_unicode_utf8_first)] }
def AddrLengthsSaid : Prop := addrLengthsRow.holds Tryd.pinned (OpenSpec.ofChange addrLengthsSpec)

/-- ITS FALSE NEIGHBOUR: 'it returns false'. Refute it at one input. -/
def addrLengthsWrong : ChangeSpec := { name := "addrLengths", fn := fun _ => fun
  | [d1, d2] => { results := [.lit (.bool false)], args := [d1, d2] }
  | _ => none }
def AddrLengthsWrongFalsely : Prop := addrLengthsRow.holds Tryd.pinned (OpenSpec.ofChange addrLengthsWrong)

/- THE SECOND FORM. 'bulk': how many values and letters a reading holds, each counted each time it is reached (what is shared counts as often as it is met; a slice's spare places count too). A statement '..UptoSaid' is the law's where the arguments, and the package variables that the reading takes, are together of bulk at most 1048576: NARROWER than '..Said'. Prove '..Said' where nothing that the law and all that it calls make is longer than what came in: it says more and counts as full. Else prove '..UptoSaid'. A law counts once. -/
mutual
def uptoBulk {H : Type} : DataW H → Nat
  | .lit (.string bytes) => bytes.length + 1
  | .lit _ => 1
  | .nil => 1
  | .ptr d => uptoBulk d + 1
  | .slice elems spare => uptoBulkAll elems + uptoBulkAll spare + 1
  | .agg parts => uptoBulkAll parts + 1
  | .iface _ d => uptoBulk d + 1
  | .map entries => uptoBulkEntries entries + 1
  | .held _ => 1
def uptoBulkAll {H : Type} : List (DataW H) → Nat
  | [] => 0
  | d :: r => uptoBulk d + uptoBulkAll r
def uptoBulkEntries {H : Type} : List (Lit × DataW H) → Nat
  | [] => 0
  | x :: r => uptoBulkEntry x + uptoBulkEntries r
def uptoBulkEntry {H : Type} : Lit × DataW H → Nat
  | (.string bytes, d) => bytes.length + uptoBulk d + 1
  | (_, d) => uptoBulk d + 1
 end
def uptoSmall : (H : Type) → List (DataW H) → Bool := fun _ ds => decide (uptoBulkAll ds ≤ 1048576)
def OpenSpec.upto (s : _root_.Go.ChangeSpec) : _root_.Go.OpenSpec := { _root_.Go.OpenSpec.ofChange s with cond := some uptoSmall }

/-- 'estafettelaw01.AddrNames', WHERE WHAT IT READS IS OF BULK AT MOST 1048576: true; the input reads as it did. -/
def addrNamesUptoRow : OpenClaim := { program := "ytikfdngidbppbaadoor", sum := "b43a2f7e9ba49818dadd4d32a05f1db246ba362750d7f87e76ca7b492b4c75f5", func := "estafette/estafettelaw01.AddrNames", spec := "addrNames", inPlace := ["internal/bytealg.IndexByteString", "internal/bytealg.IndexString", "internal/bytealg.CountString"], unfollowed := true, recurses := true, named := ["internal/bytealg.MaxLen", "unicode/utf8.first", "unicode/utf8.acceptRanges"], apart := false, laid := [("unicode/utf8.acceptRanges", laid_unicode_utf8_acceptRanges), ("unicode/utf8.first", laid_unicode_utf8_first)], narrowed := true }
def AddrNamesUptoSaid : Prop := addrNamesUptoRow.holds Tryd.pinned (OpenSpec.upto addrNamesSpec)

/-- 'estafettelaw01.AddrPaths', WHERE WHAT IT READS IS OF BULK AT MOST 1048576: true; the input reads as it did. -/
def addrPathsUptoRow : OpenClaim := { program := "ytikfdngidbppbaadoor", sum := "b43a2f7e9ba49818dadd4d32a05f1db246ba362750d7f87e76ca7b492b4c75f5", func := "estafette/estafettelaw01.AddrPaths", spec := "addrPaths", inPlace := ["internal/bytealg.IndexByteString", "internal/bytealg.IndexString", "internal/bytealg.CountString"], unfollowed := true, recurses := true, named := ["internal/bytealg.MaxLen", "unicode/utf8.first", "unicode/utf8.acceptRanges"], apart := false, laid := [("unicode/utf8.acceptRanges", laid_unicode_utf8_acceptRanges), ("unicode/utf8.first", laid_unicode_utf8_first)], narrowed := true }
def AddrPathsUptoSaid : Prop := addrPathsUptoRow.holds Tryd.pinned (OpenSpec.upto addrPathsSpec)

/-- 'estafettelaw01.AddrTwice', WHERE WHAT IT READS IS OF BULK AT MOST 1048576: true; the input reads as it did. -/
def addrTwiceUptoRow : OpenClaim := { program := "ytikfdngidbppbaadoor", sum := "b43a2f7e9ba49818dadd4d32a05f1db246ba362750d7f87e76ca7b492b4c75f5", func := "estafette/estafettelaw01.AddrTwice", spec := "addrTwice", inPlace := ["internal/bytealg.IndexByteString", "internal/bytealg.IndexString", "internal/bytealg.CountString"], unfollowed := true, recurses := true, named := ["internal/bytealg.MaxLen", "unicode/utf8.first", "unicode/utf8.acceptRanges"], apart := false, laid := [("unicode/utf8.acceptRanges", laid_unicode_utf8_acceptRanges), ("unicode/utf8.first", laid_unicode_utf8_first)], narrowed := true }
def AddrTwiceUptoSaid : Prop := addrTwiceUptoRow.holds Tryd.pinned (OpenSpec.upto addrTwiceSpec)

/-- 'estafettelaw01.AddrRoutes', WHERE WHAT IT READS IS OF BULK AT MOST 1048576: true; the input reads as it did. -/
def addrRoutesUptoRow : OpenClaim := { program := "ytikfdngidbppbaadoor", sum := "b43a2f7e9ba49818dadd4d32a05f1db246ba362750d7f87e76ca7b492b4c75f5", func := "estafette/estafettelaw01.AddrRoutes", spec := "addrRoutes", inPlace := ["internal/bytealg.IndexByteString", "internal/bytealg.IndexString", "internal/bytealg.CountString"], unfollowed := true, recurses := true, named := ["internal/bytealg.MaxLen", "unicode/utf8.first", "unicode/utf8.acceptRanges"], apart := false, laid := [("unicode/utf8.acceptRanges", laid_unicode_utf8_acceptRanges), ("unicode/utf8.first", laid_unicode_utf8_first)], narrowed := true }
def AddrRoutesUptoSaid : Prop := addrRoutesUptoRow.holds Tryd.pinned (OpenSpec.upto addrRoutesSpec)

/-- 'estafettelaw01.AddrLengths', WHERE WHAT IT READS IS OF BULK AT MOST 1048576: true; the input reads as it did. -/
def addrLengthsUptoRow : OpenClaim := { program := "ytikfdngidbppbaadoor", sum := "b43a2f7e9ba49818dadd4d32a05f1db246ba362750d7f87e76ca7b492b4c75f5", func := "estafette/estafettelaw01.AddrLengths", spec := "addrLengths", inPlace := ["internal/bytealg.IndexByteString", "internal/bytealg.IndexString", "internal/bytealg.CountString"], unfollowed := true, recurses := true, named := ["internal/bytealg.MaxLen", "unicode/utf8.first", "unicode/utf8.acceptRanges"], apart := false, laid := [("unicode/utf8.acceptRanges", laid_unicode_utf8_acceptRanges), ("unicode/utf8.first", laid_unicode_utf8_first)], narrowed := true }
def AddrLengthsUptoSaid : Prop := addrLengthsUptoRow.holds Tryd.pinned (OpenSpec.upto addrLengthsSpec)

end Rows
end Go.Proofs.YtikfdngidbppbaaDoor
