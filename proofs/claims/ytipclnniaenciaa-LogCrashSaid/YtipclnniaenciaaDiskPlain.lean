/- A disk that has power and no fuse: what each call leaves, as plain data. -/
import Derived.Test.YtipclnniaenciaaDiskWords
namespace Go.Proofs.Ytipclnniaenciaa.Hand
open Go.RowKit Go.Proofs.YtipclnniaenciaaW.PrintWords
set_option linter.unusedVariables false
set_option linter.unusedSimpArgs false
def dS (f : Fs) (l : List Wr) (n : Int) : DSt := ⟨f, l, n, -1, false⟩
section
variable {f : Fs} {l : List Wr} {n : Int} {s t : ByteArray} {b : By}
theorem dS_now : (dS f l n).now = l.foldl doW f := rfl
theorem dS_new (h : 0 ≤ n) : newS n = dS [] [] n := by unfold newS dS; rw [if_neg (by omega)]
theorem dS_burnB : burnB (dS f l n) = true := rfl
theorem dS_doneR : doneR (dS f l n) = 0 := rfl
theorem dS_doneS (w : Wr) : doneS (dS f l n) w = dS f (l ++ [w]) n := rfl
theorem dS_sync : syncS (dS f l n) = dS (l.foldl doW f) [] n := rfl
theorem dS_app (hg : goodName s = true) (hf : fullB (dS f l n) s b.length = false) : appendR (dS f l n) s b.length = 0 ∧ appendS (dS f l n) s b = dS f (l ++ [⟨0, s, ⟨#[]⟩, b⟩]) n := by
  constructor
  · unfold appendR
    rw [if_neg (by rw [hg]; simp), if_neg (by show ¬ false = true; simp), if_neg (by rw [hf]; simp)]
    rfl
  · unfold appendS
    rw [if_neg (by rw [hg]; simp), if_neg (by show ¬ false = true; simp), if_neg (by rw [hf]; simp)]
    rfl
theorem dS_full (hg : goodName s = true) (hf : fullB (dS f l n) s b.length = true) : appendR (dS f l n) s b.length = 5 ∧ appendS (dS f l n) s b = dS f l n := by
  constructor
  · unfold appendR
    rw [if_neg (by rw [hg]; simp), if_neg (by show ¬ false = true; simp), if_pos hf]
  · unfold appendS
    rw [if_neg (by rw [hg]; simp), if_neg (by show ¬ false = true; simp), if_pos hf]
theorem dS_rem (hg : goodName s = true) (hl : (look s (l.foldl doW f)).isSome = true) : removeR (dS f l n) s = 0 ∧ removeS (dS f l n) s = dS f (l ++ [⟨2, s, ⟨#[]⟩, []⟩]) n := by
  constructor
  · unfold removeR
    rw [if_neg (by rw [hg]; simp), if_neg (by show ¬ false = true; simp), dS_now, if_neg (by rw [hl]; simp)]
    rfl
  · unfold removeS
    rw [if_neg (by rw [hg]; simp), if_neg (by show ¬ false = true; simp), dS_now, if_neg (by rw [hl]; simp)]
    rfl
theorem dS_rem_none (hg : goodName s = true) (hl : (look s (l.foldl doW f)).isSome = false) : removeR (dS f l n) s = 3 ∧ removeS (dS f l n) s = dS f l n := by
  constructor
  · unfold removeR
    rw [if_neg (by rw [hg]; simp), if_neg (by show ¬ false = true; simp), dS_now, if_pos hl]
  · unfold removeS
    rw [if_neg (by rw [hg]; simp), if_neg (by show ¬ false = true; simp), dS_now, if_pos hl]
theorem dS_ren (hg : goodName s = true) (hg2 : goodName t = true) (hl : (look s (l.foldl doW f)).isSome = true) : renameR (dS f l n) s t = 0 ∧ renameS (dS f l n) s t = dS f (l ++ [⟨1, s, t, []⟩]) n := by
  constructor
  · unfold renameR
    rw [if_neg (by rw [hg]; simp), if_neg (by rw [hg2]; simp), if_neg (by show ¬ false = true; simp), dS_now, if_neg (by rw [hl]; simp)]
    rfl
  · unfold renameS
    rw [if_neg (by rw [hg]; simp), if_neg (by rw [hg2]; simp), if_neg (by show ¬ false = true; simp), dS_now, if_neg (by rw [hl]; simp)]
    rfl
theorem dS_read (hg : goodName s = true) : readR (dS f l n) s = (if (look s (l.foldl doW f)).isSome = false then 3 else 0) ∧ readB (dS f l n) s = bytesAt s (l.foldl doW f) := by
  constructor
  · unfold readR
    rw [if_neg (by rw [hg]; simp), if_neg (by show ¬ false = true; simp), dS_now]
  · unfold readB
    rw [if_neg (by rw [hg]; simp), if_neg (by show ¬ false = true; simp), dS_now]
theorem dS_ok (h1 : f.length ≤ maxN) (h2 : l.length ≤ maxN) (h3 : used f + looseB l ≤ maxB) (h4 : ∀ p ∈ f, p.1.size ≤ 32) (h5 : ∀ w ∈ l, w.frm.size ≤ 32 ∧ w.onto.size ≤ 32) : (dS f l n).Ok :=
  ⟨by show (-1 : Int) ≤ _; omega, by show (-1 : Int) ≤ -1; omega, h2, h1, h3, h4, h5⟩
theorem full_no (h1 : (look s (l.foldl doW f)).isSome = true ∨ (l.foldl doW f).length < 16) (h2 : (used (l.foldl doW f) : Int) + b.length ≤ n) : fullB (dS f l n) s b.length = false := by
  unfold fullB
  rw [dS_now]
  have h3 : decide ((dS f l n).room < (used (l.foldl doW f) : Int) + b.length) = false := decide_eq_false (by show ¬ n < _; omega)
  rw [h3, Bool.or_false]
  rcases h1 with h1 | h1
  · rw [h1]; rfl
  · rw [decide_eq_false (by omega), Bool.and_false]
theorem full_yes (h2 : n < (used (l.foldl doW f) : Int) + b.length) : fullB (dS f l n) s b.length = true := by
  unfold fullB
  rw [dS_now, decide_eq_true (show (dS f l n).room < _ from h2), Bool.or_true]
end
end Go.Proofs.Ytipclnniaenciaa.Hand
