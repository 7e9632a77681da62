/-
  NARROWER THAN 'FOR EVERY INPUT', by the rows' own cells (each row's printed sentence says how): RouteHops: laid · RouteOther: laid · RouteGroups: laid · RouteAll: laid · RouteNone: laid.
  DERIVED. THE GIVEN ROWS OF THIS SEAT. 5 by the template 'for every input the law returns true; each argument reads behind the call as it read before'; 0 by the template 'total and deterministic' (their statements: YtaifpiknddgnmaaDoorTotals.lean).
  GIVEN WITH THE SEED: the statements are not yours to turn. If you find one false, say at which input.
  Laid BY PROGRAM, IN A SANDBOX (cutbox-rows.mjs): the forced cells as the released guide's own fill.sh prints them over the translation ab71d5f47ff991da… (all of the seat's roots in one cut). By AI agents, Wed Nov 11 2026. No macro, syntax, notation, axiom, sorry.
-/
import Derived.Test.YtaifpiknddgnmaaDoorChecked
import GoSem.PinnedTables
import GoSem.Claim
import GoSem.ClaimJoined
import GoSem.ClaimMapViews
import Derived.JoinedTies
import Derived.KernelRfl
namespace Go.Proofs.YtaifpiknddgnmaaDoor
/- THE CELL 'sum', in the pinned program and in every row, IS THE sha256 OF THE DUMP (.gsa) THAT YtaifpiknddgnmaaDoorProg.lean LOADS. Nothing in Lean hashes anything: it is a label: what it is worth is what the hold of that sum in a sandbox is worth. -/
noncomputable def Tryd.pinned : Pinned := { name := "ytaifpiknddgnmaadoor", sum := "ab71d5f47ff991da4116136d7e9677f5d96be5766c921ed86274ffffef97a425", checked := Tryd.checked }
namespace Rows
def none {H : Type} : Left H := { results := [], args := [] }

/- WHAT THE LISTED PACKAGE-LEVEL VARIABLES READ AS WHEN THE CALL BEGINS. Each datum BY PROGRAM (the guide's laid-datum.mjs) off the statement by which the dump's own 'gosem.cut.vars' lays the variable. In a bare row this is a premise. The card (YtaifpiknddgnmaaDoorCards.lean) ties it to the program's text. -/
def laid_unicode_utf8_acceptRanges {H : Type} : DataW H := .agg [.agg [.lit (.int .u8 128), .lit (.int .u8 191)], .agg [.lit (.int .u8 160), .lit (.int .u8 191)], .agg [.lit (.int .u8 128), .lit (.int .u8 159)], .agg [.lit (.int .u8 144), .lit (.int .u8 191)], .agg [.lit (.int .u8 128), .lit (.int .u8 143)], .agg [.lit (.int .u8 0), .lit (.int .u8 0)], .agg [.lit (.int .u8 0), .lit (.int .u8 0)], .agg [.lit (.int .u8 0), .lit (.int .u8 0)], .agg [.lit (.int .u8 0), .lit (.int .u8 0)], .agg [.lit (.int .u8 0), .lit (.int .u8 0)], .agg [.lit (.int .u8 0), .lit (.int .u8 0)], .agg [.lit (.int .u8 0), .lit (.int .u8 0)], .agg [.lit (.int .u8 0), .lit (.int .u8 0)], .agg [.lit (.int .u8 0), .lit (.int .u8 0)], .agg [.lit (.int .u8 0), .lit (.int .u8 0)], .agg [.lit (.int .u8 0), .lit (.int .u8 0)]]
/-- One of Go's own tables, pinned by name: the form's constant. -/
def laid_unicode_utf8_first : DataW Unit := Go.Pinned.utf8First

/-- 'estafettelaw17.RouteHops': WHATEVER THE INPUT: true; the input reads as it did. -/
def routeHopsSpec : ChangeSpec := { name := "routeHops", fn := fun _ => fun
  | [d1, d2] => { results := [.lit (.bool true)], args := [d1, d2] }
  | _ => none }
def routeHopsRow : OpenClaim := { program := "ytaifpiknddgnmaadoor", sum := "ab71d5f47ff991da4116136d7e9677f5d96be5766c921ed86274ffffef97a425", func := "estafette/estafettelaw17.RouteHops", spec := "routeHops", inPlace := ["internal/bytealg.IndexByteString", "internal/bytealg.IndexString", "internal/bytealg.CountString"], unfollowed := true, recurses := true, named := ["internal/bytealg.MaxLen", "unicode/utf8.first", "unicode/utf8.acceptRanges"], apart := false, laid := [("unicode/utf8.acceptRanges", laid_unicode_utf8_acceptRanges), ("unicode/utf8.first", laid_unicode_utf8_first)] }
def RouteHopsSaid : Prop := routeHopsRow.holds Tryd.pinned (OpenSpec.ofChange routeHopsSpec)

/-- ITS FALSE NEIGHBOUR: 'it returns false'. Refute it at one input. -/
def routeHopsWrong : ChangeSpec := { name := "routeHops", fn := fun _ => fun
  | [d1, d2] => { results := [.lit (.bool false)], args := [d1, d2] }
  | _ => none }
def RouteHopsWrongFalsely : Prop := routeHopsRow.holds Tryd.pinned (OpenSpec.ofChange routeHopsWrong)

/-- 'estafettelaw17.RouteOther': WHATEVER THE INPUT: true; the input reads as it did. -/
def routeOtherSpec : ChangeSpec := { name := "routeOther", fn := fun _ => fun
  | [d1, d2, d3] => { results := [.lit (.bool true)], args := [d1, d2, d3] }
  | _ => none }
def routeOtherRow : OpenClaim := { program := "ytaifpiknddgnmaadoor", sum := "ab71d5f47ff991da4116136d7e9677f5d96be5766c921ed86274ffffef97a425", func := "estafette/estafettelaw17.RouteOther", spec := "routeOther", inPlace := ["internal/bytealg.IndexByteString", "internal/bytealg.IndexString", "internal/bytealg.CountString"], unfollowed := true, recurses := true, named := ["internal/bytealg.MaxLen", "unicode/utf8.first", "unicode/utf8.acceptRanges"], apart := false, laid := [("unicode/utf8.acceptRanges", laid_unicode_utf8_acceptRanges), ("unicode/utf8.first", laid_unicode_utf8_first)] }
def RouteOtherSaid : Prop := routeOtherRow.holds Tryd.pinned (OpenSpec.ofChange routeOtherSpec)

/-- ITS FALSE NEIGHBOUR: 'it returns false'. Refute it at one input. -/
def routeOtherWrong : ChangeSpec := { name := "routeOther", fn := fun _ => fun
  | [d1, d2, d3] => { results := [.lit (.bool false)], args := [d1, d2, d3] }
  | _ => none }
def RouteOtherWrongFalsely : Prop := routeOtherRow.holds Tryd.pinned (OpenSpec.ofChange routeOtherWrong)

/-- 'estafettelaw17.RouteGroups': WHATEVER THE INPUT: true; the input reads as it did. -/
def routeGroupsSpec : ChangeSpec := { name := "routeGroups", fn := fun _ => fun
  | [d1, d2, d3] => { results := [.lit (.bool true)], args := [d1, d2, d3] }
  | _ => none }
def routeGroupsRow : OpenClaim := { program := "ytaifpiknddgnmaadoor", sum := "ab71d5f47ff991da4116136d7e9677f5d96be5766c921ed86274ffffef97a425", func := "estafette/estafettelaw17.RouteGroups", spec := "routeGroups", inPlace := ["internal/bytealg.IndexByteString", "internal/bytealg.IndexString", "internal/bytealg.CountString"], unfollowed := true, recurses := true, named := ["internal/bytealg.MaxLen", "unicode/utf8.first", "unicode/utf8.acceptRanges"], apart := false, laid := [("unicode/utf8.acceptRanges", laid_unicode_utf8_acceptRanges), ("unicode/utf8.first", laid_unicode_utf8_first)] }
def RouteGroupsSaid : Prop := routeGroupsRow.holds Tryd.pinned (OpenSpec.ofChange routeGroupsSpec)

/-- ITS FALSE NEIGHBOUR: 'it returns false'. Refute it at one input. -/
def routeGroupsWrong : ChangeSpec := { name := "routeGroups", fn := fun _ => fun
  | [d1, d2, d3] => { results := [.lit (.bool false)], args := [d1, d2, d3] }
  | _ => none }
def RouteGroupsWrongFalsely : Prop := routeGroupsRow.holds Tryd.pinned (OpenSpec.ofChange routeGroupsWrong)

/-- 'estafettelaw17.RouteAll': WHATEVER THE INPUT: true; the input reads as it did. -/
def routeAllSpec : ChangeSpec := { name := "routeAll", fn := fun _ => fun
  | [d1, d2] => { results := [.lit (.bool true)], args := [d1, d2] }
  | _ => none }
def routeAllRow : OpenClaim := { program := "ytaifpiknddgnmaadoor", sum := "ab71d5f47ff991da4116136d7e9677f5d96be5766c921ed86274ffffef97a425", func := "estafette/estafettelaw17.RouteAll", spec := "routeAll", inPlace := ["internal/bytealg.IndexByteString", "internal/bytealg.IndexString", "internal/bytealg.CountString"], unfollowed := true, recurses := true, named := ["internal/bytealg.MaxLen", "unicode/utf8.first", "unicode/utf8.acceptRanges"], apart := false, laid := [("unicode/utf8.acceptRanges", laid_unicode_utf8_acceptRanges), ("unicode/utf8.first", laid_unicode_utf8_first)] }
def RouteAllSaid : Prop := routeAllRow.holds Tryd.pinned (OpenSpec.ofChange routeAllSpec)

/-- ITS FALSE NEIGHBOUR: 'it returns false'. Refute it at one input. -/
def routeAllWrong : ChangeSpec := { name := "routeAll", fn := fun _ => fun
  | [d1, d2] => { results := [.lit (.bool false)], args := [d1, d2] }
  | _ => none }
def RouteAllWrongFalsely : Prop := routeAllRow.holds Tryd.pinned (OpenSpec.ofChange routeAllWrong)

/-- 'estafettelaw17.RouteNone': WHATEVER THE INPUT: true; the input reads as it did. -/
def routeNoneSpec : ChangeSpec := { name := "routeNone", fn := fun _ => fun
  | [d1, d2] => { results := [.lit (.bool true)], args := [d1, d2] }
  | _ => none }
def routeNoneRow : OpenClaim := { program := "ytaifpiknddgnmaadoor", sum := "ab71d5f47ff991da4116136d7e9677f5d96be5766c921ed86274ffffef97a425", func := "estafette/estafettelaw17.RouteNone", spec := "routeNone", inPlace := ["internal/bytealg.IndexByteString", "internal/bytealg.IndexString", "internal/bytealg.CountString"], unfollowed := true, recurses := true, named := ["internal/bytealg.MaxLen", "unicode/utf8.first", "unicode/utf8.acceptRanges"], apart := false, laid := [("unicode/utf8.acceptRanges", laid_unicode_utf8_acceptRanges), ("unicode/utf8.first", laid_unicode_utf8_first)] }
def RouteNoneSaid : Prop := routeNoneRow.holds Tryd.pinned (OpenSpec.ofChange routeNoneSpec)

/-- ITS FALSE NEIGHBOUR: 'it returns false'. Refute it at one input. -/
def routeNoneWrong : ChangeSpec := { name := "routeNone", fn := fun _ => fun
  | [d1, d2] => { results := [.lit (.bool false)], args := [d1, d2] }
  | _ => none }
def RouteNoneWrongFalsely : Prop := routeNoneRow.holds Tryd.pinned (OpenSpec.ofChange routeNoneWrong)

/- THE SECOND FORM. 'bulk': how many values and letters a reading holds, each counted each time it is reached (what is shared counts as often as it is met; a slice's spare places count too). A statement '..UptoSaid' is the law's where the arguments, and the package variables that the reading takes, are together of bulk at most 1048576: NARROWER than '..Said'. Prove '..Said' where nothing that the law and all that it calls make is longer than what came in: it says more and counts as full. Else prove '..UptoSaid'. A law counts once. -/
mutual
def uptoBulk {H : Type} : DataW H → Nat
  | .lit (.string bytes) => bytes.length + 1
  | .lit _ => 1
  | .nil => 1
  | .ptr d => uptoBulk d + 1
  | .slice elems spare => uptoBulkAll elems + uptoBulkAll spare + 1
  | .agg parts => uptoBulkAll parts + 1
  | .iface _ d => uptoBulk d + 1
  | .map entries => uptoBulkEntries entries + 1
  | .held _ => 1
def uptoBulkAll {H : Type} : List (DataW H) → Nat
  | [] => 0
  | d :: r => uptoBulk d + uptoBulkAll r
def uptoBulkEntries {H : Type} : List (Lit × DataW H) → Nat
  | [] => 0
  | x :: r => uptoBulkEntry x + uptoBulkEntries r
def uptoBulkEntry {H : Type} : Lit × DataW H → Nat
  | (.string bytes, d) => bytes.length + uptoBulk d + 1
  | (_, d) => uptoBulk d + 1
 end
def uptoSmall : (H : Type) → List (DataW H) → Bool := fun _ ds => decide (uptoBulkAll ds ≤ 1048576)
def OpenSpec.upto (s : _root_.Go.ChangeSpec) : _root_.Go.OpenSpec := { _root_.Go.OpenSpec.ofChange s with cond := some uptoSmall }

/-- 'estafettelaw17.RouteHops', WHERE WHAT IT READS IS OF BULK AT MOST 1048576: true; the input reads as it did. -/
def routeHopsUptoRow : OpenClaim := { program := "ytaifpiknddgnmaadoor", sum := "ab71d5f47ff991da4116136d7e9677f5d96be5766c921ed86274ffffef97a425", func := "estafette/estafettelaw17.RouteHops", spec := "routeHops", inPlace := ["internal/bytealg.IndexByteString", "internal/bytealg.IndexString", "internal/bytealg.CountString"], unfollowed := true, recurses := true, named := ["internal/bytealg.MaxLen", "unicode/utf8.first", "unicode/utf8.acceptRanges"], apart := false, laid := [("unicode/utf8.acceptRanges", laid_unicode_utf8_acceptRanges), ("unicode/utf8.first", laid_unicode_utf8_first)], narrowed := true }
def RouteHopsUptoSaid : Prop := routeHopsUptoRow.holds Tryd.pinned (OpenSpec.upto routeHopsSpec)

/-- 'estafettelaw17.RouteOther', WHERE WHAT IT READS IS OF BULK AT MOST 1048576: true; the input reads as it did. -/
def routeOtherUptoRow : OpenClaim := { program := "ytaifpiknddgnmaadoor", sum := "ab71d5f47ff991da4116136d7e9677f5d96be5766c921ed86274ffffef97a425", func := "estafette/estafettelaw17.RouteOther", spec := "routeOther", inPlace := ["internal/bytealg.IndexByteString", "internal/bytealg.IndexString", "internal/bytealg.CountString"], unfollowed := true, recurses := true, named := ["internal/bytealg.MaxLen", "unicode/utf8.first", "unicode/utf8.acceptRanges"], apart := false, laid := [("unicode/utf8.acceptRanges", laid_unicode_utf8_acceptRanges), ("unicode/utf8.first", laid_unicode_utf8_first)], narrowed := true }
def RouteOtherUptoSaid : Prop := routeOtherUptoRow.holds Tryd.pinned (OpenSpec.upto routeOtherSpec)

/-- 'estafettelaw17.RouteGroups', WHERE WHAT IT READS IS OF BULK AT MOST 1048576: true; the input reads as it did. -/
def routeGroupsUptoRow : OpenClaim := { program := "ytaifpiknddgnmaadoor", sum := "ab71d5f47ff991da4116136d7e9677f5d96be5766c921ed86274ffffef97a425", func := "estafette/estafettelaw17.RouteGroups", spec := "routeGroups", inPlace := ["internal/bytealg.IndexByteString", "internal/bytealg.IndexString", "internal/bytealg.CountString"], unfollowed := true, recurses := true, named := ["internal/bytealg.MaxLen", "unicode/utf8.first", "unicode/utf8.acceptRanges"], apart := false, laid := [("unicode/utf8.acceptRanges", laid_unicode_utf8_acceptRanges), ("unicode/utf8.first", laid_unicode_utf8_first)], narrowed := true }
def RouteGroupsUptoSaid : Prop := routeGroupsUptoRow.holds Tryd.pinned (OpenSpec.upto routeGroupsSpec)

/-- 'estafettelaw17.RouteAll', WHERE WHAT IT READS IS OF BULK AT MOST 1048576: true; the input reads as it did. -/
def routeAllUptoRow : OpenClaim := { program := "ytaifpiknddgnmaadoor", sum := "ab71d5f47ff991da4116136d7e9677f5d96be5766c921ed86274ffffef97a425", func := "estafette/estafettelaw17.RouteAll", spec := "routeAll", inPlace := ["internal/bytealg.IndexByteString", "internal/bytealg.IndexString", "internal/bytealg.CountString"], unfollowed := true, recurses := true, named := ["internal/bytealg.MaxLen", "unicode/utf8.first", "unicode/utf8.acceptRanges"], apart := false, laid := [("unicode/utf8.acceptRanges", laid_unicode_utf8_acceptRanges), ("unicode/utf8.first", laid_unicode_utf8_first)], narrowed := true }
def RouteAllUptoSaid : Prop := routeAllUptoRow.holds Tryd.pinned (OpenSpec.upto routeAllSpec)

/-- 'estafettelaw17.RouteNone', WHERE WHAT IT READS IS OF BULK AT MOST 1048576: true; the input reads as it did. -/
def routeNoneUptoRow : OpenClaim := { program := "ytaifpiknddgnmaadoor", sum := "ab71d5f47ff991da4116136d7e9677f5d96be5766c921ed86274ffffef97a425", func := "estafette/estafettelaw17.RouteNone", spec := "routeNone", inPlace := ["internal/bytealg.IndexByteString", "internal/bytealg.IndexString", "internal/bytealg.CountString"], unfollowed := true, recurses := true, named := ["internal/bytealg.MaxLen", "unicode/utf8.first", "unicode/utf8.acceptRanges"], apart := false, laid := [("unicode/utf8.acceptRanges", laid_unicode_utf8_acceptRanges), ("unicode/utf8.first", laid_unicode_utf8_first)], narrowed := true }
def RouteNoneUptoSaid : Prop := routeNoneUptoRow.holds Tryd.pinned (OpenSpec.upto routeNoneSpec)

end Rows
end Go.Proofs.YtaifpiknddgnmaaDoor
