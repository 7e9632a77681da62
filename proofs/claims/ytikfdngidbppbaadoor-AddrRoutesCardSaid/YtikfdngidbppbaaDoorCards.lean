/-
  DERIVED. GIVEN WITH THE SEED: THE CARDS: each row of YtikfdngidbppbaaDoorRows.lean that lists a variable, with what it lists TIED to the program's text (the seventh form; the later family's looks); each row that meets fmt, with fmt's text TOLD by the authors' own Lean function (tested against real Go, not proved from fmt's source: count such statements apart). THE CARD IS WHAT COUNTS. Prove the row's statement (the work); the ties are given (YtikfdngidbppbaaDoorTie.lean); close each card by the builder's one call (the guide's Derived/Test/ToyasCard.lean, 'card_holds'). Laid BY PROGRAM, IN A SANDBOX (cutbox-door.mjs). By AI agents, Wed Nov 11 2026. No macro, syntax, notation, axiom, sorry.
-/
import Derived.Test.YtikfdngidbppbaaDoorRows
import GoSem.ClaimSeven
namespace Go.Proofs.YtikfdngidbppbaaDoor
namespace Rows

/-- THE TIED CARD OF 'estafettelaw01.AddrNames'. -/
def addrNamesCard : Claim7 := { stood := { row := addrNamesRow, standIns := [], harness := (true, "7383596a3f63d8d9e353d3137320507a7214ce777e29fd8069cc470c61aac253"), looks := false }, kinds := [], alts := [], laidByText := true, laidKinds := [.data, .pinned], laidTests := true, laidLooks := .later }
def AddrNamesCardSaid : Prop := Claim7.holds Tryd.pinned (.plain (OpenSpec.ofChange addrNamesSpec)) addrNamesCard

/-- THE TIED CARD OF 'estafettelaw01.AddrPaths'. -/
def addrPathsCard : Claim7 := { stood := { row := addrPathsRow, standIns := [], harness := (true, "7383596a3f63d8d9e353d3137320507a7214ce777e29fd8069cc470c61aac253"), looks := false }, kinds := [], alts := [], laidByText := true, laidKinds := [.data, .pinned], laidTests := true, laidLooks := .later }
def AddrPathsCardSaid : Prop := Claim7.holds Tryd.pinned (.plain (OpenSpec.ofChange addrPathsSpec)) addrPathsCard

/-- THE TIED CARD OF 'estafettelaw01.AddrTwice'. -/
def addrTwiceCard : Claim7 := { stood := { row := addrTwiceRow, standIns := [], harness := (true, "7383596a3f63d8d9e353d3137320507a7214ce777e29fd8069cc470c61aac253"), looks := false }, kinds := [], alts := [], laidByText := true, laidKinds := [.data, .pinned], laidTests := true, laidLooks := .later }
def AddrTwiceCardSaid : Prop := Claim7.holds Tryd.pinned (.plain (OpenSpec.ofChange addrTwiceSpec)) addrTwiceCard

/-- THE TIED CARD OF 'estafettelaw01.AddrRoutes'. -/
def addrRoutesCard : Claim7 := { stood := { row := addrRoutesRow, standIns := [], harness := (true, "7383596a3f63d8d9e353d3137320507a7214ce777e29fd8069cc470c61aac253"), looks := false }, kinds := [], alts := [], laidByText := true, laidKinds := [.data, .pinned], laidTests := true, laidLooks := .later }
def AddrRoutesCardSaid : Prop := Claim7.holds Tryd.pinned (.plain (OpenSpec.ofChange addrRoutesSpec)) addrRoutesCard

/-- THE TIED CARD OF 'estafettelaw01.AddrLengths'. -/
def addrLengthsCard : Claim7 := { stood := { row := addrLengthsRow, standIns := [], harness := (true, "7383596a3f63d8d9e353d3137320507a7214ce777e29fd8069cc470c61aac253"), looks := false }, kinds := [], alts := [], laidByText := true, laidKinds := [.data, .pinned], laidTests := true, laidLooks := .later }
def AddrLengthsCardSaid : Prop := Claim7.holds Tryd.pinned (.plain (OpenSpec.ofChange addrLengthsSpec)) addrLengthsCard

/-- THE SECOND FORM's CARD OF 'estafettelaw01.AddrNames'. -/
def addrNamesUptoCard : Claim7 := { stood := { row := addrNamesUptoRow, standIns := [], harness := (true, "7383596a3f63d8d9e353d3137320507a7214ce777e29fd8069cc470c61aac253"), looks := false }, kinds := [], alts := [], laidByText := true, laidKinds := [.data, .pinned], laidTests := true, laidLooks := .later }
def AddrNamesUptoCardSaid : Prop := Claim7.holds Tryd.pinned (.plain (OpenSpec.upto addrNamesSpec)) addrNamesUptoCard

/-- THE SECOND FORM's CARD OF 'estafettelaw01.AddrPaths'. -/
def addrPathsUptoCard : Claim7 := { stood := { row := addrPathsUptoRow, standIns := [], harness := (true, "7383596a3f63d8d9e353d3137320507a7214ce777e29fd8069cc470c61aac253"), looks := false }, kinds := [], alts := [], laidByText := true, laidKinds := [.data, .pinned], laidTests := true, laidLooks := .later }
def AddrPathsUptoCardSaid : Prop := Claim7.holds Tryd.pinned (.plain (OpenSpec.upto addrPathsSpec)) addrPathsUptoCard

/-- THE SECOND FORM's CARD OF 'estafettelaw01.AddrTwice'. -/
def addrTwiceUptoCard : Claim7 := { stood := { row := addrTwiceUptoRow, standIns := [], harness := (true, "7383596a3f63d8d9e353d3137320507a7214ce777e29fd8069cc470c61aac253"), looks := false }, kinds := [], alts := [], laidByText := true, laidKinds := [.data, .pinned], laidTests := true, laidLooks := .later }
def AddrTwiceUptoCardSaid : Prop := Claim7.holds Tryd.pinned (.plain (OpenSpec.upto addrTwiceSpec)) addrTwiceUptoCard

/-- THE SECOND FORM's CARD OF 'estafettelaw01.AddrRoutes'. -/
def addrRoutesUptoCard : Claim7 := { stood := { row := addrRoutesUptoRow, standIns := [], harness := (true, "7383596a3f63d8d9e353d3137320507a7214ce777e29fd8069cc470c61aac253"), looks := false }, kinds := [], alts := [], laidByText := true, laidKinds := [.data, .pinned], laidTests := true, laidLooks := .later }
def AddrRoutesUptoCardSaid : Prop := Claim7.holds Tryd.pinned (.plain (OpenSpec.upto addrRoutesSpec)) addrRoutesUptoCard

/-- THE SECOND FORM's CARD OF 'estafettelaw01.AddrLengths'. -/
def addrLengthsUptoCard : Claim7 := { stood := { row := addrLengthsUptoRow, standIns := [], harness := (true, "7383596a3f63d8d9e353d3137320507a7214ce777e29fd8069cc470c61aac253"), looks := false }, kinds := [], alts := [], laidByText := true, laidKinds := [.data, .pinned], laidTests := true, laidLooks := .later }
def AddrLengthsUptoCardSaid : Prop := Claim7.holds Tryd.pinned (.plain (OpenSpec.upto addrLengthsSpec)) addrLengthsUptoCard
end Rows
end Go.Proofs.YtikfdngidbppbaaDoor
