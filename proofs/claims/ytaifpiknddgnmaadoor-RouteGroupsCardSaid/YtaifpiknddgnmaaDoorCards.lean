/-
  DERIVED. GIVEN WITH THE SEED: THE CARDS: each row of YtaifpiknddgnmaaDoorRows.lean that lists a variable, with what it lists TIED to the program's text (the seventh form; the later family's looks); each row that meets fmt, with fmt's text TOLD by the authors' own Lean function (tested against real Go, not proved from fmt's source: count such statements apart). THE CARD IS WHAT COUNTS. Prove the row's statement (the work); the ties are given (YtaifpiknddgnmaaDoorTie.lean); close each card by the builder's one call (the guide's Derived/Test/ToyasCard.lean, 'card_holds'). Laid BY PROGRAM, IN A SANDBOX (cutbox-door.mjs). By AI agents, Wed Nov 11 2026. No macro, syntax, notation, axiom, sorry.
-/
import Derived.Test.YtaifpiknddgnmaaDoorRows
import GoSem.ClaimSeven
namespace Go.Proofs.YtaifpiknddgnmaaDoor
namespace Rows

/-- THE TIED CARD OF 'estafettelaw17.RouteHops'. -/
def routeHopsCard : Claim7 := { stood := { row := routeHopsRow, standIns := [], harness := (true, "a44889cd2630bc2f12960c894abaa1db5f92be10180a731f52ddbeff1a1e755c"), looks := false }, kinds := [], alts := [], laidByText := true, laidKinds := [.data, .pinned], laidTests := true, laidLooks := .later }
def RouteHopsCardSaid : Prop := Claim7.holds Tryd.pinned (.plain (OpenSpec.ofChange routeHopsSpec)) routeHopsCard

/-- THE TIED CARD OF 'estafettelaw17.RouteOther'. -/
def routeOtherCard : Claim7 := { stood := { row := routeOtherRow, standIns := [], harness := (true, "a44889cd2630bc2f12960c894abaa1db5f92be10180a731f52ddbeff1a1e755c"), looks := false }, kinds := [], alts := [], laidByText := true, laidKinds := [.data, .pinned], laidTests := true, laidLooks := .later }
def RouteOtherCardSaid : Prop := Claim7.holds Tryd.pinned (.plain (OpenSpec.ofChange routeOtherSpec)) routeOtherCard

/-- THE TIED CARD OF 'estafettelaw17.RouteGroups'. -/
def routeGroupsCard : Claim7 := { stood := { row := routeGroupsRow, standIns := [], harness := (true, "a44889cd2630bc2f12960c894abaa1db5f92be10180a731f52ddbeff1a1e755c"), looks := false }, kinds := [], alts := [], laidByText := true, laidKinds := [.data, .pinned], laidTests := true, laidLooks := .later }
def RouteGroupsCardSaid : Prop := Claim7.holds Tryd.pinned (.plain (OpenSpec.ofChange routeGroupsSpec)) routeGroupsCard

/-- THE TIED CARD OF 'estafettelaw17.RouteAll'. -/
def routeAllCard : Claim7 := { stood := { row := routeAllRow, standIns := [], harness := (true, "a44889cd2630bc2f12960c894abaa1db5f92be10180a731f52ddbeff1a1e755c"), looks := false }, kinds := [], alts := [], laidByText := true, laidKinds := [.data, .pinned], laidTests := true, laidLooks := .later }
def RouteAllCardSaid : Prop := Claim7.holds Tryd.pinned (.plain (OpenSpec.ofChange routeAllSpec)) routeAllCard

/-- THE TIED CARD OF 'estafettelaw17.RouteNone'. -/
def routeNoneCard : Claim7 := { stood := { row := routeNoneRow, standIns := [], harness := (true, "a44889cd2630bc2f12960c894abaa1db5f92be10180a731f52ddbeff1a1e755c"), looks := false }, kinds := [], alts := [], laidByText := true, laidKinds := [.data, .pinned], laidTests := true, laidLooks := .later }
def RouteNoneCardSaid : Prop := Claim7.holds Tryd.pinned (.plain (OpenSpec.ofChange routeNoneSpec)) routeNoneCard

/-- THE SECOND FORM's CARD OF 'estafettelaw17.RouteHops'. -/
def routeHopsUptoCard : Claim7 := { stood := { row := routeHopsUptoRow, standIns := [], harness := (true, "a44889cd2630bc2f12960c894abaa1db5f92be10180a731f52ddbeff1a1e755c"), looks := false }, kinds := [], alts := [], laidByText := true, laidKinds := [.data, .pinned], laidTests := true, laidLooks := .later }
def RouteHopsUptoCardSaid : Prop := Claim7.holds Tryd.pinned (.plain (OpenSpec.upto routeHopsSpec)) routeHopsUptoCard

/-- THE SECOND FORM's CARD OF 'estafettelaw17.RouteOther'. -/
def routeOtherUptoCard : Claim7 := { stood := { row := routeOtherUptoRow, standIns := [], harness := (true, "a44889cd2630bc2f12960c894abaa1db5f92be10180a731f52ddbeff1a1e755c"), looks := false }, kinds := [], alts := [], laidByText := true, laidKinds := [.data, .pinned], laidTests := true, laidLooks := .later }
def RouteOtherUptoCardSaid : Prop := Claim7.holds Tryd.pinned (.plain (OpenSpec.upto routeOtherSpec)) routeOtherUptoCard

/-- THE SECOND FORM's CARD OF 'estafettelaw17.RouteGroups'. -/
def routeGroupsUptoCard : Claim7 := { stood := { row := routeGroupsUptoRow, standIns := [], harness := (true, "a44889cd2630bc2f12960c894abaa1db5f92be10180a731f52ddbeff1a1e755c"), looks := false }, kinds := [], alts := [], laidByText := true, laidKinds := [.data, .pinned], laidTests := true, laidLooks := .later }
def RouteGroupsUptoCardSaid : Prop := Claim7.holds Tryd.pinned (.plain (OpenSpec.upto routeGroupsSpec)) routeGroupsUptoCard

/-- THE SECOND FORM's CARD OF 'estafettelaw17.RouteAll'. -/
def routeAllUptoCard : Claim7 := { stood := { row := routeAllUptoRow, standIns := [], harness := (true, "a44889cd2630bc2f12960c894abaa1db5f92be10180a731f52ddbeff1a1e755c"), looks := false }, kinds := [], alts := [], laidByText := true, laidKinds := [.data, .pinned], laidTests := true, laidLooks := .later }
def RouteAllUptoCardSaid : Prop := Claim7.holds Tryd.pinned (.plain (OpenSpec.upto routeAllSpec)) routeAllUptoCard

/-- THE SECOND FORM's CARD OF 'estafettelaw17.RouteNone'. -/
def routeNoneUptoCard : Claim7 := { stood := { row := routeNoneUptoRow, standIns := [], harness := (true, "a44889cd2630bc2f12960c894abaa1db5f92be10180a731f52ddbeff1a1e755c"), looks := false }, kinds := [], alts := [], laidByText := true, laidKinds := [.data, .pinned], laidTests := true, laidLooks := .later }
def RouteNoneUptoCardSaid : Prop := Claim7.holds Tryd.pinned (.plain (OpenSpec.upto routeNoneSpec)) routeNoneUptoCard
end Rows
end Go.Proofs.YtaifpiknddgnmaaDoor
