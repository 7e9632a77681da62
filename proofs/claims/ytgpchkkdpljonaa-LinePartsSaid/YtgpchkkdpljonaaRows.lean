/-
  No cell of these rows narrows 'for every input' (looked for: loops, veiled, ifaces, maps, wideKeys, modest, calm, conditions, laid).
  DERIVED. THE GIVEN ROWS OF THIS SEAT. 4 by the template 'for every input the law returns true; each argument reads behind the call as it read before'; 0 by the template 'total and deterministic' (their statements: YtgpchkkdpljonaaTotals.lean).
  GIVEN WITH THE SEED: the statements are not yours to turn. If you find one false, say at which input.
  Laid BY PROGRAM, IN A SANDBOX (cutbox-rows.mjs): the forced cells as the released guide's own fill.sh prints them over the translation 891b5044d0727756… (all of the seat's roots in one cut). By AI agents, Wed Nov 11 2026. No macro, syntax, notation, axiom, sorry.
-/
import Derived.Test.YtgpchkkdpljonaaChecked
import GoSem.Claim
import GoSem.ClaimJoined
import GoSem.ClaimMapViews
import Derived.JoinedTies
import Derived.KernelRfl
namespace Go.Proofs.Ytgpchkkdpljonaa
/- THE CELL 'sum', in the pinned program and in every row, IS THE sha256 OF THE DUMP (.gsa) THAT YtgpchkkdpljonaaProg.lean LOADS. Nothing in Lean hashes anything: it is a label: what it is worth is what the hold of that sum in a sandbox is worth. -/
noncomputable def Try.pinned : Pinned := { name := "ytgpchkkdpljonaa", sum := "891b5044d07277564152ede4141bdcfe8d23efd6e1569225ec04d500abd51163", checked := Try.checked }
namespace Rows
def none {H : Type} : Left H := { results := [], args := [] }

/-- 'estafettelaw02.LineParts': WHATEVER THE INPUT: true; the input reads as it did. -/
def linePartsSpec : ChangeSpec := { name := "lineParts", fn := fun _ => fun
  | [d1, d2, d3] => { results := [.lit (.bool true)], args := [d1, d2, d3] }
  | _ => none }
def linePartsRow : OpenClaim := { program := "ytgpchkkdpljonaa", sum := "891b5044d07277564152ede4141bdcfe8d23efd6e1569225ec04d500abd51163", func := "estafette/estafettelaw02.LineParts", spec := "lineParts", inPlace := ["internal/bytealg.IndexByte", "internal/bytealg.Index"], named := ["internal/bytealg.MaxLen"], apart := false }
def LinePartsSaid : Prop := linePartsRow.holds Try.pinned (OpenSpec.ofChange linePartsSpec)

/-- ITS FALSE NEIGHBOUR: 'it returns false'. Refute it at one input. -/
def linePartsWrong : ChangeSpec := { name := "lineParts", fn := fun _ => fun
  | [d1, d2, d3] => { results := [.lit (.bool false)], args := [d1, d2, d3] }
  | _ => none }
def LinePartsWrongFalsely : Prop := linePartsRow.holds Try.pinned (OpenSpec.ofChange linePartsWrong)

/-- 'estafettelaw02.LineList': WHATEVER THE INPUT: true; the input reads as it did. -/
def lineListSpec : ChangeSpec := { name := "lineList", fn := fun _ => fun
  | [d] => { results := [.lit (.bool true)], args := [d] }
  | _ => none }
def lineListRow : OpenClaim := { program := "ytgpchkkdpljonaa", sum := "891b5044d07277564152ede4141bdcfe8d23efd6e1569225ec04d500abd51163", func := "estafette/estafettelaw02.LineList", spec := "lineList", inPlace := ["internal/bytealg.IndexByte", "internal/bytealg.Index"], named := ["internal/bytealg.MaxLen"], apart := false }
def LineListSaid : Prop := lineListRow.holds Try.pinned (OpenSpec.ofChange lineListSpec)

/-- ITS FALSE NEIGHBOUR: 'it returns false'. Refute it at one input. -/
def lineListWrong : ChangeSpec := { name := "lineList", fn := fun _ => fun
  | [d] => { results := [.lit (.bool false)], args := [d] }
  | _ => none }
def LineListWrongFalsely : Prop := lineListRow.holds Try.pinned (OpenSpec.ofChange lineListWrong)

/-- 'estafettelaw02.LineNone': WHATEVER THE INPUT: true; the input reads as it did. -/
def lineNoneSpec : ChangeSpec := { name := "lineNone", fn := fun _ => fun
  | [d1, d2] => { results := [.lit (.bool true)], args := [d1, d2] }
  | _ => none }
def lineNoneRow : OpenClaim := { program := "ytgpchkkdpljonaa", sum := "891b5044d07277564152ede4141bdcfe8d23efd6e1569225ec04d500abd51163", func := "estafette/estafettelaw02.LineNone", spec := "lineNone", inPlace := ["internal/bytealg.IndexByte", "internal/bytealg.Index"], named := ["internal/bytealg.MaxLen"], apart := false }
def LineNoneSaid : Prop := lineNoneRow.holds Try.pinned (OpenSpec.ofChange lineNoneSpec)

/-- ITS FALSE NEIGHBOUR: 'it returns false'. Refute it at one input. -/
def lineNoneWrong : ChangeSpec := { name := "lineNone", fn := fun _ => fun
  | [d1, d2] => { results := [.lit (.bool false)], args := [d1, d2] }
  | _ => none }
def LineNoneWrongFalsely : Prop := lineNoneRow.holds Try.pinned (OpenSpec.ofChange lineNoneWrong)

/-- 'estafettelaw02.LineBounds': WHATEVER THE INPUT: true; the input reads as it did. -/
def lineBoundsSpec : ChangeSpec := { name := "lineBounds", fn := fun _ => fun
  | [d1, d2] => { results := [.lit (.bool true)], args := [d1, d2] }
  | _ => none }
def lineBoundsRow : OpenClaim := { program := "ytgpchkkdpljonaa", sum := "891b5044d07277564152ede4141bdcfe8d23efd6e1569225ec04d500abd51163", func := "estafette/estafettelaw02.LineBounds", spec := "lineBounds", inPlace := ["internal/bytealg.IndexByte", "internal/bytealg.Index"], named := ["internal/bytealg.MaxLen"], apart := false }
def LineBoundsSaid : Prop := lineBoundsRow.holds Try.pinned (OpenSpec.ofChange lineBoundsSpec)

/-- ITS FALSE NEIGHBOUR: 'it returns false'. Refute it at one input. -/
def lineBoundsWrong : ChangeSpec := { name := "lineBounds", fn := fun _ => fun
  | [d1, d2] => { results := [.lit (.bool false)], args := [d1, d2] }
  | _ => none }
def LineBoundsWrongFalsely : Prop := lineBoundsRow.holds Try.pinned (OpenSpec.ofChange lineBoundsWrong)

/- THE SECOND FORM. 'bulk': how many values and letters a reading holds, each counted each time it is reached (what is shared counts as often as it is met; a slice's spare places count too). A statement '..UptoSaid' is the law's where the arguments, and the package variables that the reading takes, are together of bulk at most 1048576: NARROWER than '..Said'. Prove '..Said' where nothing that the law and all that it calls make is longer than what came in: it says more and counts as full. Else prove '..UptoSaid'. A law counts once. -/
mutual
def uptoBulk {H : Type} : DataW H → Nat
  | .lit (.string bytes) => bytes.length + 1
  | .lit _ => 1
  | .nil => 1
  | .ptr d => uptoBulk d + 1
  | .slice elems spare => uptoBulkAll elems + uptoBulkAll spare + 1
  | .agg parts => uptoBulkAll parts + 1
  | .iface _ d => uptoBulk d + 1
  | .map entries => uptoBulkEntries entries + 1
  | .held _ => 1
def uptoBulkAll {H : Type} : List (DataW H) → Nat
  | [] => 0
  | d :: r => uptoBulk d + uptoBulkAll r
def uptoBulkEntries {H : Type} : List (Lit × DataW H) → Nat
  | [] => 0
  | x :: r => uptoBulkEntry x + uptoBulkEntries r
def uptoBulkEntry {H : Type} : Lit × DataW H → Nat
  | (.string bytes, d) => bytes.length + uptoBulk d + 1
  | (_, d) => uptoBulk d + 1
 end
def uptoSmall : (H : Type) → List (DataW H) → Bool := fun _ ds => decide (uptoBulkAll ds ≤ 1048576)
def OpenSpec.upto (s : _root_.Go.ChangeSpec) : _root_.Go.OpenSpec := { _root_.Go.OpenSpec.ofChange s with cond := some uptoSmall }

/-- 'estafettelaw02.LineParts', WHERE WHAT IT READS IS OF BULK AT MOST 1048576: true; the input reads as it did. -/
def linePartsUptoRow : OpenClaim := { program := "ytgpchkkdpljonaa", sum := "891b5044d07277564152ede4141bdcfe8d23efd6e1569225ec04d500abd51163", func := "estafette/estafettelaw02.LineParts", spec := "lineParts", inPlace := ["internal/bytealg.IndexByte", "internal/bytealg.Index"], named := ["internal/bytealg.MaxLen"], apart := false, narrowed := true }
def LinePartsUptoSaid : Prop := linePartsUptoRow.holds Try.pinned (OpenSpec.upto linePartsSpec)

/-- 'estafettelaw02.LineList', WHERE WHAT IT READS IS OF BULK AT MOST 1048576: true; the input reads as it did. -/
def lineListUptoRow : OpenClaim := { program := "ytgpchkkdpljonaa", sum := "891b5044d07277564152ede4141bdcfe8d23efd6e1569225ec04d500abd51163", func := "estafette/estafettelaw02.LineList", spec := "lineList", inPlace := ["internal/bytealg.IndexByte", "internal/bytealg.Index"], named := ["internal/bytealg.MaxLen"], apart := false, narrowed := true }
def LineListUptoSaid : Prop := lineListUptoRow.holds Try.pinned (OpenSpec.upto lineListSpec)

/-- 'estafettelaw02.LineNone', WHERE WHAT IT READS IS OF BULK AT MOST 1048576: true; the input reads as it did. -/
def lineNoneUptoRow : OpenClaim := { program := "ytgpchkkdpljonaa", sum := "891b5044d07277564152ede4141bdcfe8d23efd6e1569225ec04d500abd51163", func := "estafette/estafettelaw02.LineNone", spec := "lineNone", inPlace := ["internal/bytealg.IndexByte", "internal/bytealg.Index"], named := ["internal/bytealg.MaxLen"], apart := false, narrowed := true }
def LineNoneUptoSaid : Prop := lineNoneUptoRow.holds Try.pinned (OpenSpec.upto lineNoneSpec)

/-- 'estafettelaw02.LineBounds', WHERE WHAT IT READS IS OF BULK AT MOST 1048576: true; the input reads as it did. -/
def lineBoundsUptoRow : OpenClaim := { program := "ytgpchkkdpljonaa", sum := "891b5044d07277564152ede4141bdcfe8d23efd6e1569225ec04d500abd51163", func := "estafette/estafettelaw02.LineBounds", spec := "lineBounds", inPlace := ["internal/bytealg.IndexByte", "internal/bytealg.Index"], named := ["internal/bytealg.MaxLen"], apart := false, narrowed := true }
def LineBoundsUptoSaid : Prop := lineBoundsUptoRow.holds Try.pinned (OpenSpec.upto lineBoundsSpec)

end Rows
end Go.Proofs.Ytgpchkkdpljonaa
