/- What rule's functions and the document's compute: plain functions over lists of bans; answers. -/
import Derived.Test.YtpkeplifflnemaaDoorPCx
import Derived.Test.YtpkeplifflnemaaDoorAddrRefC
namespace Go.Proofs.YtpkeplifflnemaaDoor.Addr
open Go.RowKit Go.Proofs.YtpkeplifflnemaaDoor.PC Go.Proofs.YtpkeplifflnemaaDoor.PB Go.Proofs.YtpkeplifflnemaaDoorW.PrintWords Go.Proofs.YtpkeplifflnemaaDoorW.PrintLast Go.Proofs.YtpkeplifflnemaaDoorW.PrintMore Go.Proofs.YtpkeplifflnemaaDoor.Hand
set_option linter.unusedVariables false
abbrev SHop := Go.Proofs.YtpkeplifflnemaaDoor.PB.S90
abbrev SAli := Go.Proofs.YtpkeplifflnemaaDoor.PB.S88
abbrev SBan := Go.Proofs.YtpkeplifflnemaaDoor.PB.S34

theorem Ev_succ {α : Type} {g : Nat → Option α} {r : α} (h : Ev (fun k => g (k + 1)) r) : Ev g r := Ev.step (f := fun k => g (k + 1)) (fun _ => rfl) h
theorem str_iff (a b : ByteArray) : a.toList = b.toList ↔ a = b := by
  rw [Lib.toList_data, Lib.toList_data]
  exact ⟨fun h => ByteArray.ext (Array.toList_inj.1 h), fun h => by rw [h]⟩
/-- Does a ban of l, of way f, meet the mailbox s? -/
def banL (l : List SBan) (f : Bool) (s : ByteArray) : Bool := match splitL s.data.toList with
  | some (a, b) => l.any (meets f (mk (a ++ 64 :: lowerL b)) (mk (lowerL b)))
  | none => false
theorem split_low {l a b : List UInt8} (h : splitL l = some (a, b)) : splitL (a ++ 64 :: lowerL b) = some (a, lowerL b) := by
  obtain ⟨_, h2, h3⟩ := split_some h
  exact split_mk h2 (by rw [domain_lower]; exact h3)
theorem met_eq (l0 : List SAli) (l1 : List SHop) (l2 : List SBan) (n : Int) (f : Bool) (s : ByteArray) (hl : l2.length < 1000000000001) (hs : s.size < 4611686018427387904) : Hand.rule_met.f l0 l1 l2 n f s = some (banL l2 f s) := by
  unfold Hand.rule_met.f banL
  rw [if_pos hl]
  have h := canon_eq s.data.toList (by rw [size_list]; exact hs)
  rw [mk_list] at h
  rw [h]
  unfold canonR canonL
  cases e : splitL s.data.toList with
  | none => rfl
  | some q =>
    obtain ⟨a, b⟩ := q
    obtain ⟨h1, h2⟩ := split_len e
    have h3 := split_eq (a ++ 64 :: lowerL b) (by rw [List.length_append, List.length_cons, lowerL_len]; omega)
    unfold splitR at h3
    rw [split_low e] at h3
    dsimp only [Option.map]
    rw [show a ++ [64] ++ lowerL b = a ++ 64 :: lowerL b from by simp, h3]
theorem from_eq (l0 : List SAli) (l1 : List SHop) (l2 : List SBan) (n : Int) (s : ByteArray) (size : Int) (hl : l2.length < 1000000000001) (hs : s.size < 4611686018427387904) :
    rule_From.f l0 l1 l2 n s size = some (if banL l2 true s = true then 550 else if size > (if 1 ≤ n ∧ n ≤ 65536 then n else 65536) then 552 else 250) := by
  unfold rule_From.f
  rw [met_eq l0 l1 l2 n true s hl hs, Option.bind_some]
  have h2 : rule_Size.f l0 l1 l2 n = some (if 1 ≤ n ∧ n ≤ 65536 then n else 65536) := by
    unfold rule_Size.f
    by_cases h1 : n < 1
    · rw [if_pos h1, if_neg (by omega)]
    · rw [if_neg h1]
      by_cases h2 : n > 65536
      · rw [if_pos h2, if_neg (by omega)]
      · rw [if_neg h2, if_pos (by omega)]
  rw [h2, Option.bind_some]
  generalize (if 1 ≤ n ∧ n ≤ 65536 then n else 65536) = z
  by_cases h3 : banL l2 true s = true
  · rw [if_pos h3, if_pos h3]
  · rw [if_neg h3, if_neg h3]
    by_cases h4 : size > z
    · rw [if_pos h4, if_pos h4]
    · rw [if_neg h4, if_neg h4]
theorem size_eq (l0 : List SAli) (l1 : List SHop) (l2 : List SBan) (n : Int) : rule_Size.f l0 l1 l2 n = some (if 1 ≤ n ∧ n ≤ 65536 then n else 65536) := by
  unfold rule_Size.f
  by_cases h1 : n < 1
  · rw [if_pos h1, if_neg (by omega)]
  · rw [if_neg h1]
    by_cases h2 : n > 65536
    · rw [if_pos h2, if_neg (by omega)]
    · rw [if_neg h2, if_pos (by omega)]
theorem refSize_eq (l0 : List SAli) (l1 : List SHop) (l2 : List SBan) (n : Int) : estafetteref14_Size.f l0 l1 l2 n = some (if 1 ≤ n ∧ n ≤ 65536 then n else 65536) := by
  unfold estafetteref14_Size.f
  by_cases h1 : 1 ≤ n
  · rw [if_pos (show n ≥ 1 from h1)]
    by_cases h2 : n ≤ 65536
    · rw [if_pos h2, if_pos ⟨h1, h2⟩]
    · rw [if_neg h2, if_neg (fun h => h2 h.2)]
  · rw [if_neg (show ¬ n ≥ 1 from h1), if_neg (fun h => h1 h.1)]
theorem rcpt_eq (l0 : List SAli) (l1 : List SHop) (l2 : List SBan) (n : Int) (s : ByteArray) (hl : l2.length < 1000000000001) (hs : s.size < 4611686018427387904) :
    rule_Rcpt.f l0 l1 l2 n s = some (if banL l2 false s = true then 550 else 250) := by
  unfold rule_Rcpt.f
  rw [met_eq l0 l1 l2 n false s hl hs, Option.bind_some]
  split <;> rfl
theorem rd_ban (l : List SBan) (k : Nat) (hk : k < l.length) : rd_T34 l (k : Int) = l[k] := by
  unfold rd_T34
  rw [Int.toNat_natCast, List.getD_eq_getElem?_getD, List.getElem?_eq_getElem hk]
  rfl
theorem answers_eq : estafettelaw18_answers.f = some true := by
  unfold estafettelaw18_answers.f
  rw [Option.bind_some, from_eq _ _ _ _ _ _ (by decide) (by decide), from_eq _ _ _ _ _ _ (by decide) (by decide), rcpt_eq _ _ _ _ _ (by decide) (by decide)]
  decide +kernel
theorem ev_answers {α : Type} {f : Nat → Bool → Option α} {r : α} (k : Ev (fun n => f n true) r) : Ev (fun n => (estafettelaw18_answers.f).bind (f n)) r := by
  rw [answers_eq]
  exact ev_some k
theorem RuleFree (l0 : List SAli) (l1 : List SHop) (l2 : List SBan) (n : Int) (s : ByteArray) (size : Int) (hs : s.size ≤ 140737488351232) : estafettelaw18_RuleFree.f l0 l1 l2 n s size = some true := by
  unfold estafettelaw18_RuleFree.f
  rw [answers_eq]
  have hb : ∀ f, banL [] f s = false := by
    intro f
    unfold banL
    cases splitL s.data.toList with
    | none => rfl
    | some q => rfl
  rw [rcpt_eq l0 l1 [] n s (by decide) (by omega), from_eq l0 l1 [] n s size (by decide) (by omega), from_eq l0 l1 [] n s (-1) (by decide) (by omega), size_eq, hb, hb]
  generalize hz : (if 1 ≤ n ∧ n ≤ 65536 then n else 65536) = z
  have h1 : 1 ≤ z ∧ z ≤ 65536 := by
    rw [← hz]
    split <;> omega
  have h0 : ¬ (-1 : Int) > z := by omega
  by_cases h : (s.size : Int) > 300
  · rw [if_pos h]
    rfl
  · by_cases h2 : size > z
    · have h3 : ¬ size ≤ z := by omega
      simp [h, h2, h0, h3, h1.1, h1.2]
    · have h3 : size ≤ z := by omega
      simp [h, h2, h0, h3, h1.1, h1.2]
end Go.Proofs.YtpkeplifflnemaaDoor.Addr
