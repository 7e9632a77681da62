/-
  DERIVED. GIVEN WITH THE SEED: THE CARDS: each row of YtpkeplifflnemaaDoorRows.lean that lists a variable, with what it lists TIED to the program's text (the seventh form; the later family's looks); each row that meets fmt, with fmt's text TOLD by the authors' own Lean function (tested against real Go, not proved from fmt's source: count such statements apart). THE CARD IS WHAT COUNTS. Prove the row's statement (the work); the ties are given (YtpkeplifflnemaaDoorTie.lean); close each card by the builder's one call (the guide's Derived/Test/ToyasCard.lean, 'card_holds'). Laid BY PROGRAM, IN A SANDBOX (cutbox-door.mjs). By AI agents, Wed Nov 11 2026. No macro, syntax, notation, axiom, sorry.
-/
import Derived.Test.YtpkeplifflnemaaDoorRows
import GoSem.ClaimSeven
namespace Go.Proofs.YtpkeplifflnemaaDoor
namespace Rows

/-- THE TIED CARD OF 'estafettelaw18.RuleCodes'. -/
def ruleCodesCard : Claim7 := { stood := { row := ruleCodesRow, standIns := [], harness := (true, "b32fac1b5f02d8d6da4f2bbbe701ad63f090a3c9d11b8ca4dc1827b4f18e97df"), looks := false }, kinds := [], alts := [], laidByText := true, laidKinds := [.data, .pinned], laidTests := true, laidLooks := .later }
def RuleCodesCardSaid : Prop := Claim7.holds Tryd.pinned (.plain (OpenSpec.ofChange ruleCodesSpec)) ruleCodesCard

/-- THE TIED CARD OF 'estafettelaw18.RuleMore'. -/
def ruleMoreCard : Claim7 := { stood := { row := ruleMoreRow, standIns := [], harness := (true, "b32fac1b5f02d8d6da4f2bbbe701ad63f090a3c9d11b8ca4dc1827b4f18e97df"), looks := false }, kinds := [], alts := [], laidByText := true, laidKinds := [.data, .pinned], laidTests := true, laidLooks := .later }
def RuleMoreCardSaid : Prop := Claim7.holds Tryd.pinned (.plain (OpenSpec.ofChange ruleMoreSpec)) ruleMoreCard

/-- THE TIED CARD OF 'estafettelaw18.RuleDomains'. -/
def ruleDomainsCard : Claim7 := { stood := { row := ruleDomainsRow, standIns := [], harness := (true, "b32fac1b5f02d8d6da4f2bbbe701ad63f090a3c9d11b8ca4dc1827b4f18e97df"), looks := false }, kinds := [], alts := [], laidByText := true, laidKinds := [.data, .pinned], laidTests := true, laidLooks := .later }
def RuleDomainsCardSaid : Prop := Claim7.holds Tryd.pinned (.plain (OpenSpec.ofChange ruleDomainsSpec)) ruleDomainsCard

/-- THE TIED CARD OF 'estafettelaw18.RuleFree'. -/
def ruleFreeCard : Claim7 := { stood := { row := ruleFreeRow, standIns := [], harness := (true, "b32fac1b5f02d8d6da4f2bbbe701ad63f090a3c9d11b8ca4dc1827b4f18e97df"), looks := false }, kinds := [], alts := [], laidByText := true, laidKinds := [.data, .pinned], laidTests := true, laidLooks := .later }
def RuleFreeCardSaid : Prop := Claim7.holds Tryd.pinned (.plain (OpenSpec.ofChange ruleFreeSpec)) ruleFreeCard

/-- THE SECOND FORM's CARD OF 'estafettelaw18.RuleCodes'. -/
def ruleCodesUptoCard : Claim7 := { stood := { row := ruleCodesUptoRow, standIns := [], harness := (true, "b32fac1b5f02d8d6da4f2bbbe701ad63f090a3c9d11b8ca4dc1827b4f18e97df"), looks := false }, kinds := [], alts := [], laidByText := true, laidKinds := [.data, .pinned], laidTests := true, laidLooks := .later }
def RuleCodesUptoCardSaid : Prop := Claim7.holds Tryd.pinned (.plain (OpenSpec.upto ruleCodesSpec)) ruleCodesUptoCard

/-- THE SECOND FORM's CARD OF 'estafettelaw18.RuleMore'. -/
def ruleMoreUptoCard : Claim7 := { stood := { row := ruleMoreUptoRow, standIns := [], harness := (true, "b32fac1b5f02d8d6da4f2bbbe701ad63f090a3c9d11b8ca4dc1827b4f18e97df"), looks := false }, kinds := [], alts := [], laidByText := true, laidKinds := [.data, .pinned], laidTests := true, laidLooks := .later }
def RuleMoreUptoCardSaid : Prop := Claim7.holds Tryd.pinned (.plain (OpenSpec.upto ruleMoreSpec)) ruleMoreUptoCard

/-- THE SECOND FORM's CARD OF 'estafettelaw18.RuleDomains'. -/
def ruleDomainsUptoCard : Claim7 := { stood := { row := ruleDomainsUptoRow, standIns := [], harness := (true, "b32fac1b5f02d8d6da4f2bbbe701ad63f090a3c9d11b8ca4dc1827b4f18e97df"), looks := false }, kinds := [], alts := [], laidByText := true, laidKinds := [.data, .pinned], laidTests := true, laidLooks := .later }
def RuleDomainsUptoCardSaid : Prop := Claim7.holds Tryd.pinned (.plain (OpenSpec.upto ruleDomainsSpec)) ruleDomainsUptoCard

/-- THE SECOND FORM's CARD OF 'estafettelaw18.RuleFree'. -/
def ruleFreeUptoCard : Claim7 := { stood := { row := ruleFreeUptoRow, standIns := [], harness := (true, "b32fac1b5f02d8d6da4f2bbbe701ad63f090a3c9d11b8ca4dc1827b4f18e97df"), looks := false }, kinds := [], alts := [], laidByText := true, laidKinds := [.data, .pinned], laidTests := true, laidLooks := .later }
def RuleFreeUptoCardSaid : Prop := Claim7.holds Tryd.pinned (.plain (OpenSpec.upto ruleFreeSpec)) ruleFreeUptoCard
end Rows
end Go.Proofs.YtpkeplifflnemaaDoor
