/-
  NARROWER THAN 'FOR EVERY INPUT', by the rows' own cells (each row's printed sentence says how): BinBack: laid · BinReads: laid · BinCut: laid · BinSizes: laid.
  DERIVED. THE GIVEN ROWS OF THIS SEAT. 4 by the template 'for every input the law returns true; each argument reads behind the call as it read before'; 0 by the template 'total and deterministic' (their statements: YtljhfaneepehcaaDoorTotals.lean).
  GIVEN WITH THE SEED: the statements are not yours to turn. If you find one false, say at which input.
  Laid BY PROGRAM, IN A SANDBOX (cutbox-rows.mjs): the forced cells as the released guide's own fill.sh prints them over the translation 5885985a74848061… (all of the seat's roots in one cut). By AI agents, Wed Nov 11 2026. No macro, syntax, notation, axiom, sorry.
-/
import Derived.Test.YtljhfaneepehcaaDoorChecked
import GoSem.PinnedTables
import GoSem.Claim
import GoSem.ClaimJoined
import GoSem.ClaimMapViews
import Derived.JoinedTies
import Derived.KernelRfl
namespace Go.Proofs.YtljhfaneepehcaaDoor
/- THE CELL 'sum', in the pinned program and in every row, IS THE sha256 OF THE DUMP (.gsa) THAT YtljhfaneepehcaaDoorProg.lean LOADS. Nothing in Lean hashes anything: it is a label: what it is worth is what the hold of that sum in a sandbox is worth. -/
noncomputable def Tryd.pinned : Pinned := { name := "ytljhfaneepehcaadoor", sum := "5885985a74848061a84e32009a9f67a6d9d068c24fa72f523f6f50a2216bb148", checked := Tryd.checked }
namespace Rows
def none {H : Type} : Left H := { results := [], args := [] }

/- WHAT THE LISTED PACKAGE-LEVEL VARIABLES READ AS WHEN THE CALL BEGINS. Each datum BY PROGRAM (the guide's laid-datum.mjs) off the statement by which the dump's own 'gosem.cut.vars' lays the variable. In a bare row this is a premise. The card (YtljhfaneepehcaaDoorCards.lean) ties it to the program's text. -/
def laid_unicode_utf8_acceptRanges {H : Type} : DataW H := .agg [.agg [.lit (.int .u8 128), .lit (.int .u8 191)], .agg [.lit (.int .u8 160), .lit (.int .u8 191)], .agg [.lit (.int .u8 128), .lit (.int .u8 159)], .agg [.lit (.int .u8 144), .lit (.int .u8 191)], .agg [.lit (.int .u8 128), .lit (.int .u8 143)], .agg [.lit (.int .u8 0), .lit (.int .u8 0)], .agg [.lit (.int .u8 0), .lit (.int .u8 0)], .agg [.lit (.int .u8 0), .lit (.int .u8 0)], .agg [.lit (.int .u8 0), .lit (.int .u8 0)], .agg [.lit (.int .u8 0), .lit (.int .u8 0)], .agg [.lit (.int .u8 0), .lit (.int .u8 0)], .agg [.lit (.int .u8 0), .lit (.int .u8 0)], .agg [.lit (.int .u8 0), .lit (.int .u8 0)], .agg [.lit (.int .u8 0), .lit (.int .u8 0)], .agg [.lit (.int .u8 0), .lit (.int .u8 0)], .agg [.lit (.int .u8 0), .lit (.int .u8 0)]]
/-- One of Go's own tables, pinned by name: the form's constant. -/
def laid_unicode_utf8_first : DataW Unit := Go.Pinned.utf8First

/-- 'estafettelaw12.BinBack': WHATEVER THE INPUT: true; the input reads as it did. -/
def binBackSpec : ChangeSpec := { name := "binBack", fn := fun _ => fun
  | [d] => { results := [.lit (.bool true)], args := [d] }
  | _ => none }
def binBackRow : OpenClaim := { program := "ytljhfaneepehcaadoor", sum := "5885985a74848061a84e32009a9f67a6d9d068c24fa72f523f6f50a2216bb148", func := "estafette/estafettelaw12.BinBack", spec := "binBack", inPlace := ["internal/bytealg.IndexByteString", "internal/bytealg.IndexString", "internal/bytealg.CountString"], unfollowed := true, recurses := true, named := ["internal/bytealg.MaxLen", "unicode/utf8.first", "unicode/utf8.acceptRanges"], apart := false, laid := [("unicode/utf8.acceptRanges", laid_unicode_utf8_acceptRanges), ("unicode/utf8.first", laid_unicode_utf8_first)] }
def BinBackSaid : Prop := binBackRow.holds Tryd.pinned (OpenSpec.ofChange binBackSpec)

/-- ITS FALSE NEIGHBOUR: 'it returns false'. Refute it at one input. -/
def binBackWrong : ChangeSpec := { name := "binBack", fn := fun _ => fun
  | [d] => { results := [.lit (.bool false)], args := [d] }
  | _ => none }
def BinBackWrongFalsely : Prop := binBackRow.holds Tryd.pinned (OpenSpec.ofChange binBackWrong)

/-- 'estafettelaw12.BinReads': WHATEVER THE INPUT: true; the input reads as it did. -/
def binReadsSpec : ChangeSpec := { name := "binReads", fn := fun _ => fun
  | [d] => { results := [.lit (.bool true)], args := [d] }
  | _ => none }
def binReadsRow : OpenClaim := { program := "ytljhfaneepehcaadoor", sum := "5885985a74848061a84e32009a9f67a6d9d068c24fa72f523f6f50a2216bb148", func := "estafette/estafettelaw12.BinReads", spec := "binReads", inPlace := ["internal/bytealg.IndexByteString", "internal/bytealg.IndexString", "internal/bytealg.CountString"], unfollowed := true, recurses := true, named := ["internal/bytealg.MaxLen", "unicode/utf8.first", "unicode/utf8.acceptRanges"], apart := false, laid := [("unicode/utf8.acceptRanges", laid_unicode_utf8_acceptRanges), ("unicode/utf8.first", laid_unicode_utf8_first)] }
def BinReadsSaid : Prop := binReadsRow.holds Tryd.pinned (OpenSpec.ofChange binReadsSpec)

/-- ITS FALSE NEIGHBOUR: 'it returns false'. Refute it at one input. -/
def binReadsWrong : ChangeSpec := { name := "binReads", fn := fun _ => fun
  | [d] => { results := [.lit (.bool false)], args := [d] }
  | _ => none }
def BinReadsWrongFalsely : Prop := binReadsRow.holds Tryd.pinned (OpenSpec.ofChange binReadsWrong)

/-- 'estafettelaw12.BinCut': WHATEVER THE INPUT: true; the input reads as it did. -/
def binCutSpec : ChangeSpec := { name := "binCut", fn := fun _ => fun
  | [d1, d2, d3] => { results := [.lit (.bool true)], args := [d1, d2, d3] }
  | _ => none }
def binCutRow : OpenClaim := { program := "ytljhfaneepehcaadoor", sum := "5885985a74848061a84e32009a9f67a6d9d068c24fa72f523f6f50a2216bb148", func := "estafette/estafettelaw12.BinCut", spec := "binCut", inPlace := ["internal/bytealg.IndexByteString", "internal/bytealg.IndexString", "internal/bytealg.CountString"], unfollowed := true, recurses := true, named := ["internal/bytealg.MaxLen", "unicode/utf8.first", "unicode/utf8.acceptRanges"], apart := false, laid := [("unicode/utf8.acceptRanges", laid_unicode_utf8_acceptRanges), ("unicode/utf8.first", laid_unicode_utf8_first)] }
def BinCutSaid : Prop := binCutRow.holds Tryd.pinned (OpenSpec.ofChange binCutSpec)

/-- ITS FALSE NEIGHBOUR: 'it returns false'. Refute it at one input. -/
def binCutWrong : ChangeSpec := { name := "binCut", fn := fun _ => fun
  | [d1, d2, d3] => { results := [.lit (.bool false)], args := [d1, d2, d3] }
  | _ => none }
def BinCutWrongFalsely : Prop := binCutRow.holds Tryd.pinned (OpenSpec.ofChange binCutWrong)

/-- 'estafettelaw12.BinSizes': WHATEVER THE INPUT: true; the input reads as it did. -/
def binSizesSpec : ChangeSpec := { name := "binSizes", fn := fun _ => fun
  | [d] => { results := [.lit (.bool true)], args := [d] }
  | _ => none }
def binSizesRow : OpenClaim := { program := "ytljhfaneepehcaadoor", sum := "5885985a74848061a84e32009a9f67a6d9d068c24fa72f523f6f50a2216bb148", func := "estafette/estafettelaw12.BinSizes", spec := "binSizes", inPlace := ["internal/bytealg.IndexByteString", "internal/bytealg.IndexString", "internal/bytealg.CountString"], unfollowed := true, recurses := true, named := ["internal/bytealg.MaxLen", "unicode/utf8.first", "unicode/utf8.acceptRanges"], apart := false, laid := [("unicode/utf8.acceptRanges", laid_unicode_utf8_acceptRanges), ("unicode/utf8.first", laid_unicode_utf8_first)] }
def BinSizesSaid : Prop := binSizesRow.holds Tryd.pinned (OpenSpec.ofChange binSizesSpec)

/-- ITS FALSE NEIGHBOUR: 'it returns false'. Refute it at one input. -/
def binSizesWrong : ChangeSpec := { name := "binSizes", fn := fun _ => fun
  | [d] => { results := [.lit (.bool false)], args := [d] }
  | _ => none }
def BinSizesWrongFalsely : Prop := binSizesRow.holds Tryd.pinned (OpenSpec.ofChange binSizesWrong)

/- THE SECOND FORM. 'bulk': how many values and letters a reading holds, each counted each time it is reached (what is shared counts as often as it is met; a slice's spare places count too). A statement '..UptoSaid' is the law's where the arguments, and the package variables that the reading takes, are together of bulk at most 1048576: NARROWER than '..Said'. Prove '..Said' where nothing that the law and all that it calls make is longer than what came in: it says more and counts as full. Else prove '..UptoSaid'. A law counts once. -/
mutual
def uptoBulk {H : Type} : DataW H → Nat
  | .lit (.string bytes) => bytes.length + 1
  | .lit _ => 1
  | .nil => 1
  | .ptr d => uptoBulk d + 1
  | .slice elems spare => uptoBulkAll elems + uptoBulkAll spare + 1
  | .agg parts => uptoBulkAll parts + 1
  | .iface _ d => uptoBulk d + 1
  | .map entries => uptoBulkEntries entries + 1
  | .held _ => 1
def uptoBulkAll {H : Type} : List (DataW H) → Nat
  | [] => 0
  | d :: r => uptoBulk d + uptoBulkAll r
def uptoBulkEntries {H : Type} : List (Lit × DataW H) → Nat
  | [] => 0
  | x :: r => uptoBulkEntry x + uptoBulkEntries r
def uptoBulkEntry {H : Type} : Lit × DataW H → Nat
  | (.string bytes, d) => bytes.length + uptoBulk d + 1
  | (_, d) => uptoBulk d + 1
 end
def uptoSmall : (H : Type) → List (DataW H) → Bool := fun _ ds => decide (uptoBulkAll ds ≤ 1048576)
def OpenSpec.upto (s : _root_.Go.ChangeSpec) : _root_.Go.OpenSpec := { _root_.Go.OpenSpec.ofChange s with cond := some uptoSmall }

/-- 'estafettelaw12.BinBack', WHERE WHAT IT READS IS OF BULK AT MOST 1048576: true; the input reads as it did. -/
def binBackUptoRow : OpenClaim := { program := "ytljhfaneepehcaadoor", sum := "5885985a74848061a84e32009a9f67a6d9d068c24fa72f523f6f50a2216bb148", func := "estafette/estafettelaw12.BinBack", spec := "binBack", inPlace := ["internal/bytealg.IndexByteString", "internal/bytealg.IndexString", "internal/bytealg.CountString"], unfollowed := true, recurses := true, named := ["internal/bytealg.MaxLen", "unicode/utf8.first", "unicode/utf8.acceptRanges"], apart := false, laid := [("unicode/utf8.acceptRanges", laid_unicode_utf8_acceptRanges), ("unicode/utf8.first", laid_unicode_utf8_first)], narrowed := true }
def BinBackUptoSaid : Prop := binBackUptoRow.holds Tryd.pinned (OpenSpec.upto binBackSpec)

/-- 'estafettelaw12.BinReads', WHERE WHAT IT READS IS OF BULK AT MOST 1048576: true; the input reads as it did. -/
def binReadsUptoRow : OpenClaim := { program := "ytljhfaneepehcaadoor", sum := "5885985a74848061a84e32009a9f67a6d9d068c24fa72f523f6f50a2216bb148", func := "estafette/estafettelaw12.BinReads", spec := "binReads", inPlace := ["internal/bytealg.IndexByteString", "internal/bytealg.IndexString", "internal/bytealg.CountString"], unfollowed := true, recurses := true, named := ["internal/bytealg.MaxLen", "unicode/utf8.first", "unicode/utf8.acceptRanges"], apart := false, laid := [("unicode/utf8.acceptRanges", laid_unicode_utf8_acceptRanges), ("unicode/utf8.first", laid_unicode_utf8_first)], narrowed := true }
def BinReadsUptoSaid : Prop := binReadsUptoRow.holds Tryd.pinned (OpenSpec.upto binReadsSpec)

/-- 'estafettelaw12.BinCut', WHERE WHAT IT READS IS OF BULK AT MOST 1048576: true; the input reads as it did. -/
def binCutUptoRow : OpenClaim := { program := "ytljhfaneepehcaadoor", sum := "5885985a74848061a84e32009a9f67a6d9d068c24fa72f523f6f50a2216bb148", func := "estafette/estafettelaw12.BinCut", spec := "binCut", inPlace := ["internal/bytealg.IndexByteString", "internal/bytealg.IndexString", "internal/bytealg.CountString"], unfollowed := true, recurses := true, named := ["internal/bytealg.MaxLen", "unicode/utf8.first", "unicode/utf8.acceptRanges"], apart := false, laid := [("unicode/utf8.acceptRanges", laid_unicode_utf8_acceptRanges), ("unicode/utf8.first", laid_unicode_utf8_first)], narrowed := true }
def BinCutUptoSaid : Prop := binCutUptoRow.holds Tryd.pinned (OpenSpec.upto binCutSpec)

/-- 'estafettelaw12.BinSizes', WHERE WHAT IT READS IS OF BULK AT MOST 1048576: true; the input reads as it did. -/
def binSizesUptoRow : OpenClaim := { program := "ytljhfaneepehcaadoor", sum := "5885985a74848061a84e32009a9f67a6d9d068c24fa72f523f6f50a2216bb148", func := "estafette/estafettelaw12.BinSizes", spec := "binSizes", inPlace := ["internal/bytealg.IndexByteString", "internal/bytealg.IndexString", "internal/bytealg.CountString"], unfollowed := true, recurses := true, named := ["internal/bytealg.MaxLen", "unicode/utf8.first", "unicode/utf8.acceptRanges"], apart := false, laid := [("unicode/utf8.acceptRanges", laid_unicode_utf8_acceptRanges), ("unicode/utf8.first", laid_unicode_utf8_first)], narrowed := true }
def BinSizesUptoSaid : Prop := binSizesUptoRow.holds Tryd.pinned (OpenSpec.upto binSizesSpec)

end Rows
end Go.Proofs.YtljhfaneepehcaaDoor
