/-
  DERIVED. GIVEN WITH THE SEED: THE CARDS: each row of YtljhfaneepehcaaDoorRows.lean that lists a variable, with what it lists TIED to the program's text (the seventh form; the later family's looks); each row that meets fmt, with fmt's text TOLD by the authors' own Lean function (tested against real Go, not proved from fmt's source: count such statements apart). THE CARD IS WHAT COUNTS. Prove the row's statement (the work); the ties are given (YtljhfaneepehcaaDoorTie.lean); close each card by the builder's one call (the guide's Derived/Test/ToyasCard.lean, 'card_holds'). Laid BY PROGRAM, IN A SANDBOX (cutbox-door.mjs). By AI agents, Wed Nov 11 2026. No macro, syntax, notation, axiom, sorry.
-/
import Derived.Test.YtljhfaneepehcaaDoorRows
import GoSem.ClaimSeven
namespace Go.Proofs.YtljhfaneepehcaaDoor
namespace Rows

/-- THE TIED CARD OF 'estafettelaw12.BinBack'. -/
def binBackCard : Claim7 := { stood := { row := binBackRow, standIns := [], harness := (true, "ab35ddf1065c40ce74a5b550cd95ca11e4330532f0710d9e57cec183c33702e9"), looks := false }, kinds := [], alts := [], laidByText := true, laidKinds := [.data, .pinned], laidTests := true, laidLooks := .later }
def BinBackCardSaid : Prop := Claim7.holds Tryd.pinned (.plain (OpenSpec.ofChange binBackSpec)) binBackCard

/-- THE TIED CARD OF 'estafettelaw12.BinReads'. -/
def binReadsCard : Claim7 := { stood := { row := binReadsRow, standIns := [], harness := (true, "ab35ddf1065c40ce74a5b550cd95ca11e4330532f0710d9e57cec183c33702e9"), looks := false }, kinds := [], alts := [], laidByText := true, laidKinds := [.data, .pinned], laidTests := true, laidLooks := .later }
def BinReadsCardSaid : Prop := Claim7.holds Tryd.pinned (.plain (OpenSpec.ofChange binReadsSpec)) binReadsCard

/-- THE TIED CARD OF 'estafettelaw12.BinCut'. -/
def binCutCard : Claim7 := { stood := { row := binCutRow, standIns := [], harness := (true, "ab35ddf1065c40ce74a5b550cd95ca11e4330532f0710d9e57cec183c33702e9"), looks := false }, kinds := [], alts := [], laidByText := true, laidKinds := [.data, .pinned], laidTests := true, laidLooks := .later }
def BinCutCardSaid : Prop := Claim7.holds Tryd.pinned (.plain (OpenSpec.ofChange binCutSpec)) binCutCard

/-- THE TIED CARD OF 'estafettelaw12.BinSizes'. -/
def binSizesCard : Claim7 := { stood := { row := binSizesRow, standIns := [], harness := (true, "ab35ddf1065c40ce74a5b550cd95ca11e4330532f0710d9e57cec183c33702e9"), looks := false }, kinds := [], alts := [], laidByText := true, laidKinds := [.data, .pinned], laidTests := true, laidLooks := .later }
def BinSizesCardSaid : Prop := Claim7.holds Tryd.pinned (.plain (OpenSpec.ofChange binSizesSpec)) binSizesCard

/-- THE SECOND FORM's CARD OF 'estafettelaw12.BinBack'. -/
def binBackUptoCard : Claim7 := { stood := { row := binBackUptoRow, standIns := [], harness := (true, "ab35ddf1065c40ce74a5b550cd95ca11e4330532f0710d9e57cec183c33702e9"), looks := false }, kinds := [], alts := [], laidByText := true, laidKinds := [.data, .pinned], laidTests := true, laidLooks := .later }
def BinBackUptoCardSaid : Prop := Claim7.holds Tryd.pinned (.plain (OpenSpec.upto binBackSpec)) binBackUptoCard

/-- THE SECOND FORM's CARD OF 'estafettelaw12.BinReads'. -/
def binReadsUptoCard : Claim7 := { stood := { row := binReadsUptoRow, standIns := [], harness := (true, "ab35ddf1065c40ce74a5b550cd95ca11e4330532f0710d9e57cec183c33702e9"), looks := false }, kinds := [], alts := [], laidByText := true, laidKinds := [.data, .pinned], laidTests := true, laidLooks := .later }
def BinReadsUptoCardSaid : Prop := Claim7.holds Tryd.pinned (.plain (OpenSpec.upto binReadsSpec)) binReadsUptoCard

/-- THE SECOND FORM's CARD OF 'estafettelaw12.BinCut'. -/
def binCutUptoCard : Claim7 := { stood := { row := binCutUptoRow, standIns := [], harness := (true, "ab35ddf1065c40ce74a5b550cd95ca11e4330532f0710d9e57cec183c33702e9"), looks := false }, kinds := [], alts := [], laidByText := true, laidKinds := [.data, .pinned], laidTests := true, laidLooks := .later }
def BinCutUptoCardSaid : Prop := Claim7.holds Tryd.pinned (.plain (OpenSpec.upto binCutSpec)) binCutUptoCard

/-- THE SECOND FORM's CARD OF 'estafettelaw12.BinSizes'. -/
def binSizesUptoCard : Claim7 := { stood := { row := binSizesUptoRow, standIns := [], harness := (true, "ab35ddf1065c40ce74a5b550cd95ca11e4330532f0710d9e57cec183c33702e9"), looks := false }, kinds := [], alts := [], laidByText := true, laidKinds := [.data, .pinned], laidTests := true, laidLooks := .later }
def BinSizesUptoCardSaid : Prop := Claim7.holds Tryd.pinned (.plain (OpenSpec.upto binSizesSpec)) binSizesUptoCard
end Rows
end Go.Proofs.YtljhfaneepehcaaDoor
