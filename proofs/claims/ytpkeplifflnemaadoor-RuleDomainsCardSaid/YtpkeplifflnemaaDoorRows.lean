/-
  NARROWER THAN 'FOR EVERY INPUT', by the rows' own cells (each row's printed sentence says how): RuleCodes: laid · RuleMore: laid · RuleDomains: laid · RuleFree: laid.
  DERIVED. THE GIVEN ROWS OF THIS SEAT. 4 by the template 'for every input the law returns true; each argument reads behind the call as it read before'; 0 by the template 'total and deterministic' (their statements: YtpkeplifflnemaaDoorTotals.lean).
  GIVEN WITH THE SEED: the statements are not yours to turn. If you find one false, say at which input.
  Laid BY PROGRAM, IN A SANDBOX (cutbox-rows.mjs): the forced cells as the released guide's own fill.sh prints them over the translation c9481bc60c74fdb0… (all of the seat's roots in one cut). By AI agents, Wed Nov 11 2026. No macro, syntax, notation, axiom, sorry.
-/
import Derived.Test.YtpkeplifflnemaaDoorChecked
import GoSem.PinnedTables
import GoSem.Claim
import GoSem.ClaimJoined
import GoSem.ClaimMapViews
import Derived.JoinedTies
import Derived.KernelRfl
namespace Go.Proofs.YtpkeplifflnemaaDoor
/- THE CELL 'sum', in the pinned program and in every row, IS THE sha256 OF THE DUMP (.gsa) THAT YtpkeplifflnemaaDoorProg.lean LOADS. Nothing in Lean hashes anything: it is a label: what it is worth is what the hold of that sum in a sandbox is worth. -/
noncomputable def Tryd.pinned : Pinned := { name := "ytpkeplifflnemaadoor", sum := "c9481bc60c74fdb0278980eccf91d399fac5846d0e9ca1842d4b2031d91480c2", checked := Tryd.checked }
namespace Rows
def none {H : Type} : Left H := { results := [], args := [] }

/- WHAT THE LISTED PACKAGE-LEVEL VARIABLES READ AS WHEN THE CALL BEGINS. Each datum BY PROGRAM (the guide's laid-datum.mjs) off the statement by which the dump's own 'gosem.cut.vars' lays the variable. In a bare row this is a premise. The card (YtpkeplifflnemaaDoorCards.lean) ties it to the program's text. -/
def laid_unicode_utf8_acceptRanges {H : Type} : DataW H := .agg [.agg [.lit (.int .u8 128), .lit (.int .u8 191)], .agg [.lit (.int .u8 160), .lit (.int .u8 191)], .agg [.lit (.int .u8 128), .lit (.int .u8 159)], .agg [.lit (.int .u8 144), .lit (.int .u8 191)], .agg [.lit (.int .u8 128), .lit (.int .u8 143)], .agg [.lit (.int .u8 0), .lit (.int .u8 0)], .agg [.lit (.int .u8 0), .lit (.int .u8 0)], .agg [.lit (.int .u8 0), .lit (.int .u8 0)], .agg [.lit (.int .u8 0), .lit (.int .u8 0)], .agg [.lit (.int .u8 0), .lit (.int .u8 0)], .agg [.lit (.int .u8 0), .lit (.int .u8 0)], .agg [.lit (.int .u8 0), .lit (.int .u8 0)], .agg [.lit (.int .u8 0), .lit (.int .u8 0)], .agg [.lit (.int .u8 0), .lit (.int .u8 0)], .agg [.lit (.int .u8 0), .lit (.int .u8 0)], .agg [.lit (.int .u8 0), .lit (.int .u8 0)]]
/-- One of Go's own tables, pinned by name: the form's constant. -/
def laid_unicode_utf8_first : DataW Unit := Go.Pinned.utf8First

/-- 'estafettelaw18.RuleCodes': WHATEVER THE INPUT: true; the input reads as it did. -/
def ruleCodesSpec : ChangeSpec := { name := "ruleCodes", fn := fun _ => fun
  | [d1, d2, d3] => { results := [.lit (.bool true)], args := [d1, d2, d3] }
  | _ => none }
def ruleCodesRow : OpenClaim := { program := "ytpkeplifflnemaadoor", sum := "c9481bc60c74fdb0278980eccf91d399fac5846d0e9ca1842d4b2031d91480c2", func := "estafette/estafettelaw18.RuleCodes", spec := "ruleCodes", inPlace := ["internal/bytealg.IndexByteString", "internal/bytealg.IndexString", "internal/bytealg.CountString"], unfollowed := true, recurses := true, named := ["internal/bytealg.MaxLen", "unicode/utf8.first", "unicode/utf8.acceptRanges"], apart := false, laid := [("unicode/utf8.acceptRanges", laid_unicode_utf8_acceptRanges), ("unicode/utf8.first", laid_unicode_utf8_first)] }
def RuleCodesSaid : Prop := ruleCodesRow.holds Tryd.pinned (OpenSpec.ofChange ruleCodesSpec)

/-- ITS FALSE NEIGHBOUR: 'it returns false'. Refute it at one input. -/
def ruleCodesWrong : ChangeSpec := { name := "ruleCodes", fn := fun _ => fun
  | [d1, d2, d3] => { results := [.lit (.bool false)], args := [d1, d2, d3] }
  | _ => none }
def RuleCodesWrongFalsely : Prop := ruleCodesRow.holds Tryd.pinned (OpenSpec.ofChange ruleCodesWrong)

/-- 'estafettelaw18.RuleMore': WHATEVER THE INPUT: true; the input reads as it did. -/
def ruleMoreSpec : ChangeSpec := { name := "ruleMore", fn := fun _ => fun
  | [d1, d2, d3, d4] => { results := [.lit (.bool true)], args := [d1, d2, d3, d4] }
  | _ => none }
def ruleMoreRow : OpenClaim := { program := "ytpkeplifflnemaadoor", sum := "c9481bc60c74fdb0278980eccf91d399fac5846d0e9ca1842d4b2031d91480c2", func := "estafette/estafettelaw18.RuleMore", spec := "ruleMore", inPlace := ["internal/bytealg.IndexByteString", "internal/bytealg.IndexString", "internal/bytealg.CountString"], unfollowed := true, recurses := true, named := ["internal/bytealg.MaxLen", "unicode/utf8.first", "unicode/utf8.acceptRanges"], apart := false, laid := [("unicode/utf8.acceptRanges", laid_unicode_utf8_acceptRanges), ("unicode/utf8.first", laid_unicode_utf8_first)] }
def RuleMoreSaid : Prop := ruleMoreRow.holds Tryd.pinned (OpenSpec.ofChange ruleMoreSpec)

/-- ITS FALSE NEIGHBOUR: 'it returns false'. Refute it at one input. -/
def ruleMoreWrong : ChangeSpec := { name := "ruleMore", fn := fun _ => fun
  | [d1, d2, d3, d4] => { results := [.lit (.bool false)], args := [d1, d2, d3, d4] }
  | _ => none }
def RuleMoreWrongFalsely : Prop := ruleMoreRow.holds Tryd.pinned (OpenSpec.ofChange ruleMoreWrong)

/-- 'estafettelaw18.RuleDomains': WHATEVER THE INPUT: true; the input reads as it did. -/
def ruleDomainsSpec : ChangeSpec := { name := "ruleDomains", fn := fun _ => fun
  | [d1, d2, d3] => { results := [.lit (.bool true)], args := [d1, d2, d3] }
  | _ => none }
def ruleDomainsRow : OpenClaim := { program := "ytpkeplifflnemaadoor", sum := "c9481bc60c74fdb0278980eccf91d399fac5846d0e9ca1842d4b2031d91480c2", func := "estafette/estafettelaw18.RuleDomains", spec := "ruleDomains", inPlace := ["internal/bytealg.IndexByteString", "internal/bytealg.IndexString", "internal/bytealg.CountString"], unfollowed := true, recurses := true, named := ["internal/bytealg.MaxLen", "unicode/utf8.first", "unicode/utf8.acceptRanges"], apart := false, laid := [("unicode/utf8.acceptRanges", laid_unicode_utf8_acceptRanges), ("unicode/utf8.first", laid_unicode_utf8_first)] }
def RuleDomainsSaid : Prop := ruleDomainsRow.holds Tryd.pinned (OpenSpec.ofChange ruleDomainsSpec)

/-- ITS FALSE NEIGHBOUR: 'it returns false'. Refute it at one input. -/
def ruleDomainsWrong : ChangeSpec := { name := "ruleDomains", fn := fun _ => fun
  | [d1, d2, d3] => { results := [.lit (.bool false)], args := [d1, d2, d3] }
  | _ => none }
def RuleDomainsWrongFalsely : Prop := ruleDomainsRow.holds Tryd.pinned (OpenSpec.ofChange ruleDomainsWrong)

/-- 'estafettelaw18.RuleFree': WHATEVER THE INPUT: true; the input reads as it did. -/
def ruleFreeSpec : ChangeSpec := { name := "ruleFree", fn := fun _ => fun
  | [d1, d2, d3] => { results := [.lit (.bool true)], args := [d1, d2, d3] }
  | _ => none }
def ruleFreeRow : OpenClaim := { program := "ytpkeplifflnemaadoor", sum := "c9481bc60c74fdb0278980eccf91d399fac5846d0e9ca1842d4b2031d91480c2", func := "estafette/estafettelaw18.RuleFree", spec := "ruleFree", inPlace := ["internal/bytealg.IndexByteString", "internal/bytealg.IndexString", "internal/bytealg.CountString"], unfollowed := true, recurses := true, named := ["internal/bytealg.MaxLen", "unicode/utf8.first", "unicode/utf8.acceptRanges"], apart := false, laid := [("unicode/utf8.acceptRanges", laid_unicode_utf8_acceptRanges), ("unicode/utf8.first", laid_unicode_utf8_first)] }
def RuleFreeSaid : Prop := ruleFreeRow.holds Tryd.pinned (OpenSpec.ofChange ruleFreeSpec)

/-- ITS FALSE NEIGHBOUR: 'it returns false'. Refute it at one input. -/
def ruleFreeWrong : ChangeSpec := { name := "ruleFree", fn := fun _ => fun
  | [d1, d2, d3] => { results := [.lit (.bool false)], args := [d1, d2, d3] }
  | _ => none }
def RuleFreeWrongFalsely : Prop := ruleFreeRow.holds Tryd.pinned (OpenSpec.ofChange ruleFreeWrong)

/- THE SECOND FORM. 'bulk': how many values and letters a reading holds, each counted each time it is reached (what is shared counts as often as it is met; a slice's spare places count too). A statement '..UptoSaid' is the law's where the arguments, and the package variables that the reading takes, are together of bulk at most 1048576: NARROWER than '..Said'. Prove '..Said' where nothing that the law and all that it calls make is longer than what came in: it says more and counts as full. Else prove '..UptoSaid'. A law counts once. -/
mutual
def uptoBulk {H : Type} : DataW H → Nat
  | .lit (.string bytes) => bytes.length + 1
  | .lit _ => 1
  | .nil => 1
  | .ptr d => uptoBulk d + 1
  | .slice elems spare => uptoBulkAll elems + uptoBulkAll spare + 1
  | .agg parts => uptoBulkAll parts + 1
  | .iface _ d => uptoBulk d + 1
  | .map entries => uptoBulkEntries entries + 1
  | .held _ => 1
def uptoBulkAll {H : Type} : List (DataW H) → Nat
  | [] => 0
  | d :: r => uptoBulk d + uptoBulkAll r
def uptoBulkEntries {H : Type} : List (Lit × DataW H) → Nat
  | [] => 0
  | x :: r => uptoBulkEntry x + uptoBulkEntries r
def uptoBulkEntry {H : Type} : Lit × DataW H → Nat
  | (.string bytes, d) => bytes.length + uptoBulk d + 1
  | (_, d) => uptoBulk d + 1
 end
def uptoSmall : (H : Type) → List (DataW H) → Bool := fun _ ds => decide (uptoBulkAll ds ≤ 1048576)
def OpenSpec.upto (s : _root_.Go.ChangeSpec) : _root_.Go.OpenSpec := { _root_.Go.OpenSpec.ofChange s with cond := some uptoSmall }

/-- 'estafettelaw18.RuleCodes', WHERE WHAT IT READS IS OF BULK AT MOST 1048576: true; the input reads as it did. -/
def ruleCodesUptoRow : OpenClaim := { program := "ytpkeplifflnemaadoor", sum := "c9481bc60c74fdb0278980eccf91d399fac5846d0e9ca1842d4b2031d91480c2", func := "estafette/estafettelaw18.RuleCodes", spec := "ruleCodes", inPlace := ["internal/bytealg.IndexByteString", "internal/bytealg.IndexString", "internal/bytealg.CountString"], unfollowed := true, recurses := true, named := ["internal/bytealg.MaxLen", "unicode/utf8.first", "unicode/utf8.acceptRanges"], apart := false, laid := [("unicode/utf8.acceptRanges", laid_unicode_utf8_acceptRanges), ("unicode/utf8.first", laid_unicode_utf8_first)], narrowed := true }
def RuleCodesUptoSaid : Prop := ruleCodesUptoRow.holds Tryd.pinned (OpenSpec.upto ruleCodesSpec)

/-- 'estafettelaw18.RuleMore', WHERE WHAT IT READS IS OF BULK AT MOST 1048576: true; the input reads as it did. -/
def ruleMoreUptoRow : OpenClaim := { program := "ytpkeplifflnemaadoor", sum := "c9481bc60c74fdb0278980eccf91d399fac5846d0e9ca1842d4b2031d91480c2", func := "estafette/estafettelaw18.RuleMore", spec := "ruleMore", inPlace := ["internal/bytealg.IndexByteString", "internal/bytealg.IndexString", "internal/bytealg.CountString"], unfollowed := true, recurses := true, named := ["internal/bytealg.MaxLen", "unicode/utf8.first", "unicode/utf8.acceptRanges"], apart := false, laid := [("unicode/utf8.acceptRanges", laid_unicode_utf8_acceptRanges), ("unicode/utf8.first", laid_unicode_utf8_first)], narrowed := true }
def RuleMoreUptoSaid : Prop := ruleMoreUptoRow.holds Tryd.pinned (OpenSpec.upto ruleMoreSpec)

/-- 'estafettelaw18.RuleDomains', WHERE WHAT IT READS IS OF BULK AT MOST 1048576: true; the input reads as it did. -/
def ruleDomainsUptoRow : OpenClaim := { program := "ytpkeplifflnemaadoor", sum := "c9481bc60c74fdb0278980eccf91d399fac5846d0e9ca1842d4b2031d91480c2", func := "estafette/estafettelaw18.RuleDomains", spec := "ruleDomains", inPlace := ["internal/bytealg.IndexByteString", "internal/bytealg.IndexString", "internal/bytealg.CountString"], unfollowed := true, recurses := true, named := ["internal/bytealg.MaxLen", "unicode/utf8.first", "unicode/utf8.acceptRanges"], apart := false, laid := [("unicode/utf8.acceptRanges", laid_unicode_utf8_acceptRanges), ("unicode/utf8.first", laid_unicode_utf8_first)], narrowed := true }
def RuleDomainsUptoSaid : Prop := ruleDomainsUptoRow.holds Tryd.pinned (OpenSpec.upto ruleDomainsSpec)

/-- 'estafettelaw18.RuleFree', WHERE WHAT IT READS IS OF BULK AT MOST 1048576: true; the input reads as it did. -/
def ruleFreeUptoRow : OpenClaim := { program := "ytpkeplifflnemaadoor", sum := "c9481bc60c74fdb0278980eccf91d399fac5846d0e9ca1842d4b2031d91480c2", func := "estafette/estafettelaw18.RuleFree", spec := "ruleFree", inPlace := ["internal/bytealg.IndexByteString", "internal/bytealg.IndexString", "internal/bytealg.CountString"], unfollowed := true, recurses := true, named := ["internal/bytealg.MaxLen", "unicode/utf8.first", "unicode/utf8.acceptRanges"], apart := false, laid := [("unicode/utf8.acceptRanges", laid_unicode_utf8_acceptRanges), ("unicode/utf8.first", laid_unicode_utf8_first)], narrowed := true }
def RuleFreeUptoSaid : Prop := ruleFreeUptoRow.holds Tryd.pinned (OpenSpec.upto ruleFreeSpec)

end Rows
end Go.Proofs.YtpkeplifflnemaaDoor
