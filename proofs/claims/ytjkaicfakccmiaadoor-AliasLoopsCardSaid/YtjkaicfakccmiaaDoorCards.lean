/-
  DERIVED. GIVEN WITH THE SEED: THE CARDS: each row of YtjkaicfakccmiaaDoorRows.lean that lists a variable, with what it lists TIED to the program's text (the seventh form; the later family's looks); each row that meets fmt, with fmt's text TOLD by the authors' own Lean function (tested against real Go, not proved from fmt's source: count such statements apart). THE CARD IS WHAT COUNTS. Prove the row's statement (the work); the ties are given (YtjkaicfakccmiaaDoorTie.lean); close each card by the builder's one call (the guide's Derived/Test/ToyasCard.lean, 'card_holds'). Laid BY PROGRAM, IN A SANDBOX (cutbox-door.mjs). By AI agents, Wed Nov 11 2026. No macro, syntax, notation, axiom, sorry.
-/
import Derived.Test.YtjkaicfakccmiaaDoorRows
import GoSem.ClaimSeven
namespace Go.Proofs.YtjkaicfakccmiaaDoor
namespace Rows

/-- THE TIED CARD OF 'estafettelaw16.AliasLoops'. -/
def aliasLoopsCard : Claim7 := { stood := { row := aliasLoopsRow, standIns := [], harness := (true, "53cec95589956e963fe3becd27769c3bffccc4bf0021af064242619fe36be435"), looks := false }, kinds := [], alts := [], laidByText := true, laidKinds := [.data, .pinned], laidTests := true, laidLooks := .later }
def AliasLoopsCardSaid : Prop := Claim7.holds Tryd.pinned (.plain (OpenSpec.ofChange aliasLoopsSpec)) aliasLoopsCard

/-- THE TIED CARD OF 'estafettelaw16.AliasMany'. -/
def aliasManyCard : Claim7 := { stood := { row := aliasManyRow, standIns := [], harness := (true, "53cec95589956e963fe3becd27769c3bffccc4bf0021af064242619fe36be435"), looks := false }, kinds := [], alts := [], laidByText := true, laidKinds := [.data, .pinned], laidTests := true, laidLooks := .later }
def AliasManyCardSaid : Prop := Claim7.holds Tryd.pinned (.plain (OpenSpec.ofChange aliasManySpec)) aliasManyCard

/-- THE TIED CARD OF 'estafettelaw16.AliasNone'. -/
def aliasNoneCard : Claim7 := { stood := { row := aliasNoneRow, standIns := [], harness := (true, "53cec95589956e963fe3becd27769c3bffccc4bf0021af064242619fe36be435"), looks := false }, kinds := [], alts := [], laidByText := true, laidKinds := [.data, .pinned], laidTests := true, laidLooks := .later }
def AliasNoneCardSaid : Prop := Claim7.holds Tryd.pinned (.plain (OpenSpec.ofChange aliasNoneSpec)) aliasNoneCard

/-- THE SECOND FORM's CARD OF 'estafettelaw16.AliasLoops'. -/
def aliasLoopsUptoCard : Claim7 := { stood := { row := aliasLoopsUptoRow, standIns := [], harness := (true, "53cec95589956e963fe3becd27769c3bffccc4bf0021af064242619fe36be435"), looks := false }, kinds := [], alts := [], laidByText := true, laidKinds := [.data, .pinned], laidTests := true, laidLooks := .later }
def AliasLoopsUptoCardSaid : Prop := Claim7.holds Tryd.pinned (.plain (OpenSpec.upto aliasLoopsSpec)) aliasLoopsUptoCard

/-- THE SECOND FORM's CARD OF 'estafettelaw16.AliasMany'. -/
def aliasManyUptoCard : Claim7 := { stood := { row := aliasManyUptoRow, standIns := [], harness := (true, "53cec95589956e963fe3becd27769c3bffccc4bf0021af064242619fe36be435"), looks := false }, kinds := [], alts := [], laidByText := true, laidKinds := [.data, .pinned], laidTests := true, laidLooks := .later }
def AliasManyUptoCardSaid : Prop := Claim7.holds Tryd.pinned (.plain (OpenSpec.upto aliasManySpec)) aliasManyUptoCard

/-- THE SECOND FORM's CARD OF 'estafettelaw16.AliasNone'. -/
def aliasNoneUptoCard : Claim7 := { stood := { row := aliasNoneUptoRow, standIns := [], harness := (true, "53cec95589956e963fe3becd27769c3bffccc4bf0021af064242619fe36be435"), looks := false }, kinds := [], alts := [], laidByText := true, laidKinds := [.data, .pinned], laidTests := true, laidLooks := .later }
def AliasNoneUptoCardSaid : Prop := Claim7.holds Tryd.pinned (.plain (OpenSpec.upto aliasNoneSpec)) aliasNoneUptoCard
end Rows
end Go.Proofs.YtjkaicfakccmiaaDoor
