/- A log on a disk with power and no fuse, as plain data: what Append, Compact and Open do. -/
import Derived.Test.YtipclnniaenciaaLogLaw
namespace Go.Proofs.Ytipclnniaenciaa.Hand
open Go.RowKit Go.Maps Go.Proofs.YtipclnniaenciaaW.PrintWords Go.Proofs.YtipclnniaenciaaW.PrintLast Go.Proofs.YtipclnniaenciaaW.PrintMore
set_option linter.unusedVariables false
set_option linter.unusedSimpArgs false
def fA : Option By → Fs
  | none => []
  | some x => [(nA, x)]
def stF (x : Option By) (c : Int) : DSt := ⟨fA x, [], c, -1, false⟩
theorem used_fA (x : Option By) : used (fA x) = (x.getD []).length := by cases x <;> rfl
theorem app_yes (x : Option By) (c : Int) (b : By) (h : ((x.getD []).length : Int) + b.length ≤ c) : appendR (stF x c) nA b.length = 0 ∧ syncS (appendS (stF x c) nA b) = stF (some (x.getD [] ++ b)) c ∧ doneR (appendS (stF x c) nA b) = 0 := by
  have hf : fullB (stF x c) nA b.length = false := by
    unfold fullB
    have e : (stF x c).now = fA x := rfl
    rw [e, used_fA, Bool.or_eq_false_iff]
    exact ⟨by cases x <;> rfl, decide_eq_false (by show ¬ c < _; omega)⟩
  have hg : goodName nA = true := by decide +kernel
  have ha : appendS (stF x c) nA b = ⟨fA x, [⟨0, nA, ⟨#[]⟩, b⟩], c, -1, false⟩ := by
    unfold appendS
    rw [hf, hg]
    rfl
  refine ⟨by unfold appendR; rw [hf, hg]; rfl, ?_, by rw [ha]; rfl⟩
  rw [ha]
  cases x <;> rfl
theorem app_no (x : Option By) (c : Int) (b : By) (h : c < ((x.getD []).length : Int) + b.length) : appendR (stF x c) nA b.length = 5 ∧ appendS (stF x c) nA b = stF x c := by
  have hf : fullB (stF x c) nA b.length = true := by
    unfold fullB
    have e : (stF x c).now = fA x := rfl
    rw [e, used_fA, decide_eq_true (show (stF x c).room < _ from h), Bool.or_true]
  have hg : goodName nA = true := by decide +kernel
  refine ⟨by unfold appendR; rw [hf, hg]; rfl, by unfold appendS; rw [hf, hg]; rfl⟩
def nN : ByteArray := ⟨#[97, 46, 110, 101, 119]⟩
theorem nN_new : newN nA = nN := rfl
theorem lay_yes (x : Option By) (c : Int) (rs : List By) (h : ((x.getD []).length : Int) + (frs rs).length ≤ c) : layR (stF x c) nA rs = 0 ∧ layS (stF x c) nA rs = stF (some (frs rs)) c := by
  have hf : fullB (stF x c) nN (frs rs).length = false := by
    unfold fullB
    have e : (stF x c).now = fA x := rfl
    rw [e, used_fA, Bool.or_eq_false_iff]
    exact ⟨by cases x <;> rfl, decide_eq_false (by show ¬ c < _; omega)⟩
  have hg : goodName nA = true := by decide +kernel
  have hgn : goodName nN = true := by decide +kernel
  obtain ⟨b, hb⟩ : ∃ b, b = frs rs := ⟨_, rfl⟩
  have ha : appendS (stF x c) nN b = ⟨fA x, [⟨0, nN, ⟨#[]⟩, b⟩], c, -1, false⟩ := by
    unfold appendS
    rw [hb, hf, hgn]
    rfl
  have hr : appendR (stF x c) nN b.length = 0 := by unfold appendR; rw [hb, hf, hgn]; rfl
  have hs : syncS (appendS (stF x c) nN b) = ⟨(nN, b) :: fA x, [], c, -1, false⟩ := by
    rw [ha]
    cases x <;> rfl
  have hn : renameR (⟨(nN, b) :: fA x, [], c, -1, false⟩ : DSt) nN nA = 0 := by
    unfold renameR
    rw [hg, hgn]
    cases x <;> rfl
  have hm : renameS (⟨(nN, b) :: fA x, [], c, -1, false⟩ : DSt) nN nA = ⟨(nN, b) :: fA x, [⟨1, nN, nA, []⟩], c, -1, false⟩ := by
    unfold renameS
    rw [hg, hgn]
    cases x <;> rfl
  unfold layR layS
  rw [nN_new, ← hb, hr, hs, hn, hm, ha]
  constructor
  · rfl
  · cases x <;> rfl
theorem lay_no (x : Option By) (c : Int) (rs : List By) (h : c < ((x.getD []).length : Int) + (frs rs).length) : layR (stF x c) nA rs = 5 ∧ layS (stF x c) nA rs = stF x c := by
  have hf : fullB (stF x c) nN (frs rs).length = true := by
    unfold fullB
    have e : (stF x c).now = fA x := rfl
    rw [e, used_fA, decide_eq_true (show (stF x c).room < _ from h), Bool.or_true]
  have hgn : goodName nN = true := by decide +kernel
  have hr : appendR (stF x c) nN (frs rs).length = 5 := by unfold appendR; rw [hf, hgn]; rfl
  have hs : appendS (stF x c) nN (frs rs) = stF x c := by unfold appendS; rw [hf, hgn]; rfl
  unfold layR layS
  rw [nN_new, hr, hs]
  exact ⟨rfl, rfl⟩
theorem big_one {b : By} (hb : b.length ≤ 262144) : bigB [b] = false := by
  unfold bigB
  rw [List.any_cons, decide_eq_false (by omega)]
  rfl
theorem lapp_yes (x : Option By) (c : Int) (xs : List By) (b : By) (hb : b.length ≤ 262144) (h : ((x.getD []).length : Int) + b.length + 8 ≤ c) :
    lappR ⟨nA, xs, false⟩ (stF x c) b = 0 ∧ lappS ⟨nA, xs, false⟩ (stF x c) b = stF (some (x.getD [] ++ frB b)) c ∧ lappL ⟨nA, xs, false⟩ (stF x c) b = ⟨nA, xs ++ [b], false⟩ := by
  have hm : mayR ⟨nA, xs, false⟩ [b] = 0 := by unfold mayR; rw [big_one hb]; rfl
  obtain ⟨h1, h2, h3⟩ := app_yes x c (frB b) (by rw [frB_len]; omega)
  unfold lappR lappS lappL
  rw [hm]
  show (if (0 : Int) ≠ 0 then _ else if appendR (stF x c) nA (frB b).length ≠ 0 then _ else doneR (appendS (stF x c) nA (frB b))) = 0 ∧ (if (0 : Int) ≠ 0 then _ else if appendR (stF x c) nA (frB b).length ≠ 0 then _ else syncS (appendS (stF x c) nA (frB b))) = _ ∧ (if (0 : Int) ≠ 0 then _ else if appendR (stF x c) nA (frB b).length ≠ 0 then _ else if doneR (appendS (stF x c) nA (frB b)) ≠ 0 then _ else _) = _
  rw [h1, h2, h3]
  exact ⟨rfl, rfl, rfl⟩
theorem lapp_no (x : Option By) (c : Int) (xs : List By) (b : By) (hb : b.length ≤ 262144) (h : c < ((x.getD []).length : Int) + b.length + 8) :
    lappR ⟨nA, xs, false⟩ (stF x c) b = 5 ∧ lappS ⟨nA, xs, false⟩ (stF x c) b = stF x c ∧ lappL ⟨nA, xs, false⟩ (stF x c) b = ⟨nA, xs, false⟩ := by
  have hm : mayR ⟨nA, xs, false⟩ [b] = 0 := by unfold mayR; rw [big_one hb]; rfl
  obtain ⟨h1, h2⟩ := app_no x c (frB b) (by rw [frB_len]; omega)
  unfold lappR lappS lappL
  rw [hm]
  show (if (0 : Int) ≠ 0 then _ else if appendR (stF x c) nA (frB b).length ≠ 0 then appendR (stF x c) nA (frB b).length else _) = 5 ∧ (if (0 : Int) ≠ 0 then _ else if appendR (stF x c) nA (frB b).length ≠ 0 then appendS (stF x c) nA (frB b) else _) = _ ∧ (if (0 : Int) ≠ 0 then _ else if appendR (stF x c) nA (frB b).length ≠ 0 then toldS ⟨nA, xs, false⟩ (appendR (stF x c) nA (frB b).length) else _) = _
  rw [h1, h2]
  exact ⟨rfl, rfl, rfl⟩
theorem big_all {rs : List By} (hb : ∀ b ∈ rs, b.length ≤ 262144) : bigB rs = false := by
  unfold bigB
  rw [List.any_eq_false]
  intro b h
  have := hb b h
  rw [decide_eq_true_eq]
  omega
theorem lcom_yes (x : Option By) (c : Int) (xs rs : List By) (hb : ∀ b ∈ rs, b.length ≤ 262144) (h : ((x.getD []).length : Int) + (frs rs).length ≤ c) :
    lcomR ⟨nA, xs, false⟩ (stF x c) rs = 0 ∧ lcomS ⟨nA, xs, false⟩ (stF x c) rs = stF (some (frs rs)) c ∧ lcomL ⟨nA, xs, false⟩ (stF x c) rs = ⟨nA, rs, false⟩ := by
  have hm : mayR ⟨nA, xs, false⟩ rs = 0 := by unfold mayR; rw [big_all hb]; rfl
  obtain ⟨h1, h2⟩ := lay_yes x c rs h
  unfold lcomR lcomS lcomL
  rw [hm]
  show (if (0 : Int) ≠ 0 then _ else layR (stF x c) nA rs) = 0 ∧ (if (0 : Int) ≠ 0 then _ else layS (stF x c) nA rs) = _ ∧ (if (0 : Int) ≠ 0 then _ else if layR (stF x c) nA rs ≠ 0 then _ else _) = _
  rw [h1, h2]
  exact ⟨rfl, rfl, rfl⟩
theorem lcom_no (x : Option By) (c : Int) (xs rs : List By) (hb : ∀ b ∈ rs, b.length ≤ 262144) (h : c < ((x.getD []).length : Int) + (frs rs).length) :
    lcomR ⟨nA, xs, false⟩ (stF x c) rs = 5 ∧ lcomS ⟨nA, xs, false⟩ (stF x c) rs = stF x c ∧ lcomL ⟨nA, xs, false⟩ (stF x c) rs = ⟨nA, xs, false⟩ := by
  have hm : mayR ⟨nA, xs, false⟩ rs = 0 := by unfold mayR; rw [big_all hb]; rfl
  obtain ⟨h1, h2⟩ := lay_no x c rs h
  unfold lcomR lcomS lcomL
  rw [hm]
  show (if (0 : Int) ≠ 0 then _ else layR (stF x c) nA rs) = 5 ∧ (if (0 : Int) ≠ 0 then _ else layS (stF x c) nA rs) = _ ∧ (if (0 : Int) ≠ 0 then _ else if layR (stF x c) nA rs ≠ 0 then toldS ⟨nA, xs, false⟩ (layR (stF x c) nA rs) else _) = _
  rw [h1, h2]
  exact ⟨rfl, rfl, rfl⟩
theorem rest_read (x : Option By) (c : Int) : removeS (stF x c) (newN nA) = stF x c ∧ removeR (stF x c) (newN nA) = 3 ∧ readB (stF x c) nA = x.getD [] ∧ goesB (readR (stF x c) nA) = true := by
  have hg : goodName nA = true := by decide +kernel
  have hgn : goodName nN = true := by decide +kernel
  rw [nN_new]
  refine ⟨?_, ?_, ?_, ?_⟩
  · unfold removeS; rw [hgn]; cases x <;> rfl
  · unfold removeR; rw [hgn]; cases x <;> rfl
  · unfold readB; rw [hg]; cases x <;> rfl
  · unfold readR; rw [hg]; cases x <;> rfl
/-- A file of whole frames: Open leaves it. -/
theorem open_whole (x : Option By) (c : Int) (xs : List By) (hb : ∀ b ∈ xs, b.length ≤ 262144) (hx : x.getD [] = frs xs) :
    opR (stF x c) nA = 0 ∧ opS (stF x c) nA = stF x c ∧ opL (stF x c) nA = ⟨nA, xs, false⟩ := by
  obtain ⟨h1, h2, h3, h4⟩ := rest_read x c
  have hl : logGood nA = true := by decide +kernel
  unfold opR opS opL
  rw [h1, h2, h3, h4, hl, hx, splB_whole xs hb, if_neg (Nat.lt_irrefl _), if_neg (Nat.lt_irrefl _)]
  exact ⟨rfl, rfl, rfl⟩
/-- Any file: Open leaves the frames that it begins with. -/
theorem open_any (x : By) (c : Int) (h : (x.length : Int) + x.length ≤ c) :
    opR (stF (some x) c) nA = 0 ∧ opS (stF (some x) c) nA = stF (some (frs (splB x))) c ∧ opL (stF (some x) c) nA = ⟨nA, splB x, false⟩ := by
  obtain ⟨h1, h2, h3, h4⟩ := rest_read (some x) c
  have hl : logGood nA = true := by decide +kernel
  have hle := spl_le x
  have h3' : readB (stF (some x) c) nA = x := h3
  obtain ⟨g1, g2⟩ := lay_yes (some x) c (splB x) (by show (x.length : Int) + _ ≤ c; omega)
  unfold opR opS opL
  rw [h1, h2, h3', h4, hl]
  by_cases hlt : (frs (splB x)).length < x.length
  · rw [if_pos hlt, if_pos hlt, g1, g2]
    exact ⟨rfl, rfl, rfl⟩
  · obtain ⟨⟨r, hr⟩, _⟩ := splB_front x
    have hr0 : r = [] := by
      have hlen := congrArg List.length hr
      rw [List.length_append] at hlen
      exact List.eq_nil_of_length_eq_zero (by omega)
    rw [hr0, List.append_nil] at hr
    rw [if_neg hlt, if_neg hlt, ← hr]
    exact ⟨rfl, rfl, rfl⟩
theorem stF_fit (x : Option By) (c : Int) (n m : Nat) (h : (x.getD []).length + n ≤ maxB) (hm : m + 1 ≤ maxN) : (stF x c).Fit n m := by
  have hok : (stF x c).Ok := by
    refine ⟨(show (-1 : Int) ≤ 9223372036854775807 by decide), (show (-1 : Int) ≤ -1 by decide), Nat.zero_le _, by cases x <;> (first | exact (show 0 ≤ maxN by decide) | exact (show 1 ≤ maxN by decide)), ?_, ?_, (fun _ h => by cases h)⟩
    · show used (fA x) + 0 ≤ maxB
      rw [used_fA]
      omega
    · intro p hp
      cases x with
      | none => cases hp
      | some x =>
        rw [List.mem_singleton.1 hp]
        show nA.size ≤ 32
        decide
  refine ⟨hok, ?_, ?_⟩
  · show (fA x).length + 0 + m ≤ maxN
    cases x with
    | none => show 0 + 0 + m ≤ maxN; omega
    | some x => show 1 + 0 + m ≤ maxN; omega
  · show used (fA x) + 0 + n ≤ maxB
    rw [used_fA]
    omega
/-! ## Rows of a law apart from disk and log -/
/-- C and D: blocks made since W that lie apart from the disk's, the log's, and each other. -/
structure Sets (W w : World) (A B C D : Nat → Prop) : Prop where
  c : ∀ k, C k → W.heap.size ≤ k ∧ k < w.heap.size
  d : ∀ k, D k → W.heap.size ≤ k ∧ k < w.heap.size
  ca : Off C A
  cb : Off C B
  da : Off D A
  db : Off D B
  cd : Off C D
section
variable {W w w' : World} {A B C D A' B' : Nat → Prop} {q p : Nat} {l l' : LSt} {st st' : DSt} {v v' : Value}
theorem Sets.none (W w : World) (A B : Nat → Prop) : Sets W w A B (fun _ => False) (fun _ => False) := ⟨fun _ h => h.elim, fun _ h => h.elim, fun _ h => h.elim, fun _ h => h.elim, fun _ h => h.elim, fun _ h => h.elim, fun _ h => h.elim⟩
theorem Sets.below (h : Sets W w A B C D) (hb : w.heap.size ≤ w'.heap.size) : Sets W w' A B C D := ⟨fun k hk => ⟨(h.c k hk).1, Nat.lt_of_lt_of_le (h.c k hk).2 hb⟩, fun k hk => ⟨(h.d k hk).1, Nat.lt_of_lt_of_le (h.d k hk).2 hb⟩, h.ca, h.cb, h.da, h.db, h.cd⟩
/-- A step of the log. -/
theorem Sets.log (h : Sets W w A B C D) (k : Both w A B q p w' A' B' l' st') : Sets W w' A' B' C D :=
  ⟨fun x hx => ⟨(h.c x hx).1, Nat.lt_of_lt_of_le (h.c x hx).2 k.2.2.2.2.2.size⟩, fun x hx => ⟨(h.d x hx).1, Nat.lt_of_lt_of_le (h.d x hx).2 k.2.2.2.2.2.size⟩,
    Off.symm (k.2.2.1.off h.ca.symm (fun x hx => (h.c x hx).2)), Off.symm (k.2.2.2.1.off h.cb.symm (fun x hx => (h.c x hx).2)), Off.symm (k.2.2.1.off h.da.symm (fun x hx => (h.d x hx).2)), Off.symm (k.2.2.2.1.off h.db.symm (fun x hx => (h.d x hx).2)), h.cd⟩
theorem Both.chg (k : Both w A B q p w' A' B' l' st') : Chg (fun x => A x ∨ B x) w w' := k.2.2.2.2.2
/-- C's row grows: C has what was made as well. -/
theorem Sets.growC (h : Sets W w A B C D) (hL : Law W w A B q p l st) (hs : w.heap.size ≤ w'.heap.size) : Sets W w' A B (fun k => (C k ∨ w.heap.size ≤ k) ∧ k < w'.heap.size) D := by
  have hws := hL.1.2.2.size
  refine ⟨fun k hk => ⟨hk.1.elim (fun g => (h.c k g).1) (Nat.le_trans hws), hk.2⟩, fun k hk => ⟨(h.d k hk).1, Nat.lt_of_lt_of_le (h.d k hk).2 hs⟩, fun k hk ha => hk.1.elim (fun g => h.ca k g ha) (fun g => by have := (hL.1.2.1 k ha).2; omega), fun k hk hb => hk.1.elim (fun g => h.cb k g hb) (fun g => by have := (hL.2.2.2 k hb).2; omega), h.da, h.db, fun k hk hd => hk.1.elim (fun g => h.cd k g hd) (fun g => by have := (h.d k hd).2; omega)⟩
theorem Sets.growD (h : Sets W w A B C D) (hL : Law W w A B q p l st) (hs : w.heap.size ≤ w'.heap.size) : Sets W w' A B C (fun k => (D k ∨ w.heap.size ≤ k) ∧ k < w'.heap.size) := by
  have hws := hL.1.2.2.size
  refine ⟨fun k hk => ⟨(h.c k hk).1, Nat.lt_of_lt_of_le (h.c k hk).2 hs⟩, fun k hk => ⟨hk.1.elim (fun g => (h.d k g).1) (Nat.le_trans hws), hk.2⟩, h.ca, h.cb, fun k hk ha => hk.1.elim (fun g => h.da k g ha) (fun g => by have := (hL.1.2.1 k ha).2; omega), fun k hk hb => hk.1.elim (fun g => h.db k g hb) (fun g => by have := (hL.2.2.2 k hb).2; omega), fun k hc hk => hk.1.elim (fun g => h.cd k hc g) (fun g => by have := (h.c k hc).2; omega)⟩
/-- The law goes on where something else turned. -/
theorem Law.chg {S : Nat → Prop} (h : Law W w A B q p l st) (hc : Chg S w w') (hs : ∀ k, S k → W.heap.size ≤ k) (hA : Off S A) (hB : Off S B) : Law W w' A B q p l st :=
  ⟨⟨h.1.1.chg hc (fun k hk _ g => hA k g hk), fun k hk => ⟨(h.1.2.1 k hk).1, Nat.lt_of_lt_of_le (h.1.2.1 k hk).2 hc.size⟩, h.1.2.2.trans (hc.to_below hs h.1.2.2.size)⟩, h.2.1.chg hc hB.symm, h.2.2.1, fun k hk => ⟨(h.2.2.2 k hk).1, Nat.lt_of_lt_of_le (h.2.2.2 k hk).2 hc.size⟩⟩
/-- Rows stay over what turns elsewhere. -/
theorem RB_chg {S : Nat → Prop} {b : By} {base : Nat} (h : RB w base C v b) (hc : Chg S w w') (ho : Off C S) : RB w' base C v b := Kd.R_step h (fun x hx hlt => hc.block x hlt (ho x hx))
theorem NB_chg {S : Nat → Prop} {rs : List By} (h : NB w D v rs) (hc : Chg S w w') (ho : Off D S) : NB w' D v rs := Kd.N_step h (fun x hx hlt => hc.block x hlt (ho x hx))
end
theorem cell_lt' {w : World} {a : Addr} {v : Value} (h : w.cell? a = some v) : a.block < w.heap.size := by
  rcases Nat.lt_or_ge a.block w.heap.size with h1 | h1
  · exact h1
  · unfold World.cell? at h
    rw [Array.getElem?_eq_none h1] at h
    simp at h
/-- Bytes that are read hang on blocks that are there. -/
theorem CB_foot {w : World} {A : Option Addr} {b : By} (h : CB w A b) : Kd.F (Kd.int .u8) w (fun k => k < w.heap.size) A b.length (numsL b) := by
  intro w' hm
  obtain ⟨h1, h2, h3⟩ := h
  rw [nums_len] at h1 h2 h3
  refine ⟨by rw [nums_len], h2, fun hp => ?_⟩
  obtain ⟨ad, e, hc⟩ := h3 hp
  refine ⟨ad, e, fun j x hj => ?_⟩
  obtain ⟨c, hcl, hR, hcc⟩ := hc j x hj
  refine ⟨c, hcl, hR, fun i u hu => ?_⟩
  have := hcc i u hu
  have hlt := cell_lt' this
  exact (World.cell?_of_block (w := w) (hm _ hlt hlt)).trans this
/-- Disk and log, bytes v8 that the law gathers, records v9 that it gathers. -/
structure LR (W w : World) (A B C D : Nat → Prop) (q p : Nat) (l : LSt) (st : DSt) (v8 : Value) (x8 : By) (v9 : Value) (rs : List By) : Prop where
  law : Law W w A B q p l st
  sets : Sets W w A B C D
  r8 : RB w W.heap.size C v8 x8
  r9 : NB w (fun k => D k ∨ k < W.heap.size) v9 rs
  o9 : ∀ k, v9.ownBlock = some k → D k
section
variable {W w w' : World} {A B C D A' B' : Nat → Prop} {q p : Nat} {l l' : LSt} {st st' : DSt} {v8 v9 v' : Value} {x8 x' : By} {rs rs' : List By}
theorem LR.start (h : Law W w A B q p l st) : LR W w A B (fun _ => False) (fun _ => False) q p l st (.slice none 0 0) [] (.slice none 0 0) [] :=
  ⟨h, Sets.none W w A B, Kd.R_nil _ _ _ _ _, Kd.N_nil _ _ _ _ _, fun k hk => by cases hk⟩
theorem LR.log (h : LR W w A B C D q p l st v8 x8 v9 rs) (k : Both w A B q p w' A' B' l' st') : LR W w' A' B' C D q p l' st' v8 x8 v9 rs :=
  ⟨k.law h.law, h.sets.log k, RB_chg h.r8 k.chg (fun y hy hn => hn.elim (h.sets.ca y hy) (h.sets.cb y hy)),
    NB_chg h.r9 k.chg (fun y hy hn => hy.elim (fun hy => hn.elim (h.sets.da y hy) (h.sets.db y hy)) (fun hy => hn.elim (fun g => by have := (h.law.1.2.1 y g).1; omega) (fun g => by have := (h.law.2.2.2 y g).1; omega))), h.o9⟩
theorem LR.below (h : LR W w A B C D q p l st v8 x8 v9 rs) (hb : Below w.heap.size w w') : LR W w' A B C D q p l st v8 x8 v9 rs :=
  ⟨h.law.below hb, h.sets.below hb.size, Kd.R_below h.r8 hb, Kd.N_below h.r9 hb, h.o9⟩
/-- The bytes' row is to lie where it may. -/
theorem LR.okC (h : LR W w A B C D q p l st v8 x8 v9 rs) (hb : Below w.heap.size w w') : RB w' W.heap.size (fun k => C k ∨ w.heap.size ≤ k) v8 x8 := Kd.R_mono (Kd.R_below h.r8 hb) (fun _ hk => .inl hk)
theorem LR.bytes (h : LR W w A B C D q p l st v8 x8 v9 rs) (hr : RB w' W.heap.size (fun k => C k ∨ w.heap.size ≤ k) v' x') (hg : w.grownBy w' v8.ownBlock) : LR W w' A B (fun k => (C k ∨ w.heap.size ≤ k) ∧ k < w'.heap.size) D q p l st v' x' v9 rs := by
  have hc : Chg C w w' := Chg.of_grown hg (fun k hk => .inl (h.r8.1 k hk))
  refine ⟨h.law.chg hc (fun k hk => (h.sets.c k hk).1) h.sets.ca h.sets.cb, h.sets.growC h.law hc.size, Kd.R_mono (Kd.R_bound hr) (fun k hk => ⟨hk.1, hk.2.2.1⟩), NB_chg h.r9 hc (fun k hk hc => hk.elim (fun g => h.sets.cd k hc g) (fun g => by have := (h.sets.c k hc).1; omega)), h.o9⟩
theorem LR.recs (h : LR W w A B C D q p l st v8 x8 v9 rs) (hr : NB w' (fun k => (D k ∨ k < W.heap.size) ∨ w.heap.size ≤ k) v' rs') (ho : v'.ownBlock = v9.ownBlock ∨ ∃ b, v'.ownBlock = some b ∧ w.heap.size ≤ b) (hg : w.grownBy w' v9.ownBlock) : LR W w' A B C (fun k => (D k ∨ w.heap.size ≤ k) ∧ k < w'.heap.size) q p l st v8 x8 v' rs' := by
  have hc : Chg D w w' := Chg.of_grown hg (fun k hk => .inl (h.o9 k hk))
  have hws := h.law.1.2.2.size
  have hnb := Kd.N_bound hr
  refine ⟨h.law.chg hc (fun k hk => (h.sets.d k hk).1) h.sets.da h.sets.db, h.sets.growD h.law hc.size, RB_chg h.r8 hc (fun k hk hd => h.sets.cd k hk hd), Kd.N_mono hnb (fun k hk => hk.1.elim (fun g => g.elim (fun g => .inl ⟨.inl g, hk.2⟩) .inr) (fun g => .inl ⟨.inr g, hk.2⟩)), fun k hk => ⟨?_, (hnb.1 k hk).2⟩⟩
  rcases ho with ho | ⟨b, ho, hb⟩
  · exact .inl (h.o9 k (by rw [← ho]; exact hk))
  · rw [ho] at hk
    injection hk with hk
    rw [← hk]
    exact .inr hb
theorem LR.drop8 (h : LR W w A B C D q p l st v8 x8 v9 rs) : LR W w A B C D q p l st (.slice none 0 0) [] v9 rs := ⟨h.law, h.sets, Kd.R_nil _ _ _ _ _, h.r9, h.o9⟩
theorem LR.drop9 (h : LR W w A B C D q p l st v8 x8 v9 rs) : LR W w A B C D q p l st v8 x8 (.slice none 0 0) [] := ⟨h.law, h.sets, h.r8, Kd.N_nil _ _ _ _ _, fun k hk => by cases hk⟩
/-- An old record may be put into the row. -/
theorem LR.elem {a : Option Addr} {c : Nat} {x : By} (h : LR W w A B C D q p l st v8 x8 v9 rs) (hx : CB W a x) (hc : x.length ≤ c) : Kd.FK (Kd.slice 5 (Kd.int .u8)) w (fun k => k < W.heap.size) (numsL x) [.slice a x.length c] := by
  have hf := CB_foot hx
  refine fun W' hW => ⟨a, c, by rw [nums_len], by rw [nums_len]; exact hc, ?_⟩
  rw [nums_len]
  exact hf W' (fun k hk hlt => (hW k hk (Nat.lt_of_lt_of_le hlt h.law.1.2.2.size)).trans (h.law.1.2.2.block k hlt))
end
/-! ## The log's steps under a law that gathers bytes and records -/
theorem frs_small (m : Nat) : ∀ rs : List By, (∀ y ∈ rs, y.length ≤ m) → (frs rs).length ≤ rs.length * (m + 8)
  | [], _ => Nat.zero_le _
  | r :: rs, h => by
    have h1 := frs_small m rs (fun y hy => h y (List.mem_cons_of_mem _ hy))
    have h2 := h r List.mem_cons_self
    show (frB r ++ frs rs).length ≤ (rs.length + 1) * (m + 8)
    rw [List.length_append, frB_len, Nat.add_mul]
    omega
theorem frs_snoc (rs : List By) (y : By) : frs (rs ++ [y]) = frs rs ++ frB y := by
  rw [frs_app]
  congr 1
  show frB y ++ [] = frB y
  rw [List.append_nil]
/-- A record more in a gathered row. -/
theorem N_one {w : World} {ok : Nat → Prop} {v : Value} {rs : List By} {y : By} (h : Kd.N (Kd.slice 5 (Kd.int .u8)) 22 w 0 ok v (rs.map numsL ++ [numsL y])) : NB w ok v (rs ++ [y]) := by
  show Kd.N _ _ _ _ _ _ ((rs ++ [y]).map numsL)
  rw [List.map_append]
  exact h
section
variable {W w w' : World} {A B C D A' B' : Nat → Prop} {q p : Nat} {l l' : LSt} {st st' : DSt} {v8 v9 v' : Value} {x8 x' : By} {rs rs' xs : List By} {x : Option By} {cap : Int}
theorem LR.base (h : LR W w A B C D q p l st v8 x8 v9 rs) : ∀ k, (A k ∨ B k) → W.heap.size ≤ k := fun k hk => hk.elim (fun g => (h.law.1.2.1 k g).1) (fun g => (h.law.2.2.2 k g).1)
theorem LR.app (h : LR W w A B C D q p ⟨nA, xs, false⟩ (stF x cap) v8 x8 v9 rs) {Ab : Option Addr} {c : Nat} {b : By} (hC : CB W Ab b) (hc : b.length ≤ c) (hb : b.length ≤ 1000000000) (hx : (x.getD []).length + b.length + 8 ≤ maxB) (hxs : xs.length ≤ 100000000) :
    Calls Try.prog 18 #[.pointer (some ⟨q, 0, none⟩), .slice Ab b.length c] w fun e w' => e = .returned (.int .i64 (lappR ⟨nA, xs, false⟩ (stF x cap) b)) ∧ ∃ A' B', LR W w' A' B' C D q p (lappL ⟨nA, xs, false⟩ (stF x cap) b) (lappS ⟨nA, xs, false⟩ (stF x cap) b) v8 x8 v9 rs :=
  (lapp_calls w A B q p ⟨nA, xs, false⟩ (stF x cap) Ab c b h.law.2.1 h.law.1.1 h.law.2.2.1 (fun _ => stF_fit x cap _ _ (by omega) (by decide)) (fun w' hc => Kd.C_below hC (h.law.1.2.2.trans (hc.to_below (B := W.heap.size) h.base h.law.1.2.2.size))) hc hb (by show nA.size ≤ 20; decide) hxs).mono fun e w' ⟨h1, A', B', k⟩ => ⟨h1, A', B', h.log k⟩
theorem LR.com (h : LR W w A B C D q p ⟨nA, xs, false⟩ (stF x cap) v8 x8 v9 rs) {Ab : Option Addr} {c : Nat} {ms : List By} (hC : CR W Ab ms) (hc : ms.length ≤ c) (hm : ms.length ≤ 100000000) (hf : (frs ms).length ≤ 1000000000) (hx : (x.getD []).length + (frs ms).length ≤ maxB) :
    Calls Try.prog 20 #[.pointer (some ⟨q, 0, none⟩), .slice Ab ms.length c] w fun e w' => e = .returned (.int .i64 (lcomR ⟨nA, xs, false⟩ (stF x cap) ms)) ∧ ∃ A' B', LR W w' A' B' C D q p (lcomL ⟨nA, xs, false⟩ (stF x cap) ms) (lcomS ⟨nA, xs, false⟩ (stF x cap) ms) v8 x8 v9 rs :=
  (lcom_calls w A B q p ⟨nA, xs, false⟩ (stF x cap) Ab c ms h.law.2.1 h.law.1.1 h.law.2.2.1 (fun _ => stF_fit x cap _ _ hx (by decide)) (fun w' hc => Kd.C_below hC (h.law.1.2.2.trans (hc.to_below (B := W.heap.size) h.base h.law.1.2.2.size))) hc hm hf (by show nA.size ≤ 20; decide)).mono fun e w' ⟨h1, A', B', k⟩ => ⟨h1, A', B', h.log k⟩
/-- The file, read. -/
theorem LR.read (h : LR W w A B C D q p l (stF x cap) v8 x8 v9 rs) (hx : (x.getD []).length ≤ maxB) :
    Calls Try.prog 17 #[.pointer (some ⟨p, 0, none⟩), .string nA] w fun e w' => ∃ v, e = .returned (.tuple #[v, .int .i64 (readR (stF x cap) nA)]) ∧ RB w' w.heap.size (fun k => w.heap.size ≤ k) v (x.getD []) ∧ LR W w' A B C D q p l (stF x cap) v8 x8 v9 rs := by
  have := h.law.1.1.read (stF_fit x cap 0 0 (by omega) (by decide)).ok nA nA_size
  rw [(rest_read x cap).2.2.1] at this
  exact this.mono fun e w' ⟨v, h1, h2, h3⟩ => ⟨v, h1, h2, h.below h3⟩
theorem LR.recs' (h : LR W w A B C D q p ⟨nA, xs, false⟩ st v8 x8 v9 rs) (hxs : xs.length ≤ 100000000) (hs : ∀ y ∈ xs, y.length ≤ 1000000000) :
    Calls Try.prog 15 #[.pointer (some ⟨q, 0, none⟩)] w fun e w' => ∃ v, e = .returned v ∧ NB w' (fun k => w.heap.size ≤ k) v xs ∧ LR W w' A B C D q p ⟨nA, xs, false⟩ st v8 x8 v9 rs :=
  (recs_calls w B q p _ h.law.2.1 hxs hs).mono fun e w' ⟨v, h1, h2, h3⟩ => ⟨v, h1, h2, h.below h3⟩
end
section
variable {W w w' : World} {A B C D A' B' : Nat → Prop} {q p : Nat} {l l' : LSt} {st st' : DSt} {v8 v9 v' : Value} {x8 x' : By} {rs rs' xs : List By} {x : Option By} {cap : Int}
/-- The disk alone turned. -/
theorem LR.disk (h : LR W w A B C D q p l st v8 x8 v9 rs) (k : Sp w A p w' A' st') : ∃ B', LR W w' A' B' C D q p l st' v8 x8 v9 rs := ⟨_, h.log (k.both h.law.2.1 h.law.2.2.1)⟩
theorem LR.crash (h : LR W w A B C D q p l st v8 x8 v9 rs) (hok : st.Ok) (keep torn : Int) :
    Calls Try.prog 22 #[.pointer (some ⟨p, 0, none⟩), .int .i64 keep, .int .i64 torn] w fun e w' => e = .returned (.tuple #[]) ∧ ∃ A' B', LR W w' A' B' C D q p l (crashS st keep torn) v8 x8 v9 rs :=
  (h.law.1.1.crash hok keep torn).mono fun e w' ⟨h1, h2, h3⟩ => by
    obtain ⟨A', k⟩ := (Sp.of h.law.1.1).next (h2.mono fun k hk => hk.elim (fun g => by
      by_cases hlt : k < w.heap.size
      · exact .inl ⟨g, hlt⟩
      · exact .inr (Nat.le_of_not_lt hlt)) .inr) (h3.mono fun k hk => by
        by_cases hlt : k < w.heap.size
        · exact .inl ⟨hk, hlt⟩
        · exact .inr (Nat.le_of_not_lt hlt))
    obtain ⟨B', g⟩ := h.disk k
    exact ⟨h1, A', B', g⟩
/-- Open, once more: another log beside. -/
theorem LR.opn (h : LR W w A B C D q p l st v8 x8 v9 rs) (hok : st.Ok) (s : ByteArray) (hfit : logGood s = true → st.Fit (readB (removeS st (newN s)) s).length 4) (hsz : (readB (removeS st (newN s)) s).length ≤ 1000000000 ∧ (splB (readB (removeS st (newN s)) s)).length ≤ 100000000) (hs : s.size ≤ maxLen) (hR : opR st s = 0) :
    Calls Try.prog 12 #[.pointer (some ⟨p, 0, none⟩), .string s] w fun e w' => ∃ q' A' B' B2, e = .returned (.tuple #[.pointer (some ⟨q', 0, none⟩), .int .i64 0]) ∧ LR W w' A' B' C D q p l (opS st s) v8 x8 v9 rs ∧ Lg w' B2 q' p (opL st s) ∧ Off A' B2 ∧ (∀ k, B2 k → w.heap.size ≤ k) := by
  refine (open_calls w A p st s h.law.1.1 hok hfit hsz hs).mono ?_
  rintro e w' ⟨A', hS, ⟨h0, _⟩ | ⟨_, q', B2, rfl, hL, hB, hO⟩⟩
  · exact absurd hR h0
  · obtain ⟨B', g⟩ := h.disk hS
    exact ⟨q', A', B', B2, rfl, g, hL, hO, hB⟩
theorem LR.opnw (h : LR W w A B C D q p l (stF x cap) v8 x8 v9 rs) (hb : ∀ b ∈ xs, b.length ≤ 262144) (hx : x.getD [] = frs xs) (hl : (frs xs).length ≤ 100000000) :
    Calls Try.prog 12 #[.pointer (some ⟨p, 0, none⟩), .string nA] w fun e w' => ∃ q' A' B' B2, e = .returned (.tuple #[.pointer (some ⟨q', 0, none⟩), .int .i64 0]) ∧ LR W w' A' B' C D q p l (stF x cap) v8 x8 v9 rs ∧ Lg w' B2 q' p ⟨nA, xs, false⟩ ∧ Off A' B2 ∧ (∀ k, B2 k → w.heap.size ≤ k) := by
  obtain ⟨h1, h2, h3⟩ := open_whole x cap xs hb hx
  obtain ⟨g1, _, g3, _⟩ := rest_read x cap
  have hlen := frs_ge xs
  have := h.opn (stF_fit x cap 0 0 (by rw [hx]; unfold maxB; omega) (by decide)).ok nA (fun _ => by rw [g1, g3, hx]; exact stF_fit x cap _ _ (by rw [hx]; unfold maxB; omega) (by decide)) (by rw [g1, g3, hx, splB_whole xs hb]; exact ⟨by omega, by omega⟩) nA_size h1
  rw [h2, h3] at this
  exact this
end
theorem NB_slice {w : World} {ok : Nat → Prop} {v : Value} {rs : List By} (h : NB w ok v rs) : ∃ A c, v = .slice A rs.length c ∧ rs.length ≤ c ∧ CR w A rs := by
  obtain ⟨A, c, e, hl, hC⟩ := Kd.N_reads h
  rw [List.length_map] at e hl
  exact ⟨A, c, e, hl, hC⟩
/-- Two rows of records, alike. -/
theorem sameAll_yes {W : World} {A B : Option Addr} {c d : Nat} {a b : List By} (hA : CR W A a) (hB : CR W B b) (hc : a.length ≤ c) (hd : b.length ≤ d) (hn : a.length < 10000000000) (hs : ∀ x ∈ a, x.length ≤ 10000000000) (he : a = b) :
    Calls Try.prog 14 #[.slice A a.length c, .slice B b.length d] W fun e w' => e = .returned (.bool true) ∧ Below W.heap.size W w' :=
  (sameAll_calls W A B c d a b hA hB hc hd hn hs).mono fun e w' ⟨h1, h2⟩ => ⟨by rw [h1, decide_eq_true he], h2.below⟩
theorem same_yes {W : World} {A B : Option Addr} {c d : Nat} {a b : By} (hA : CB W A a) (hB : CB W B b) (hc : a.length ≤ c) (hd : b.length ≤ d) (hl : a.length ≤ 10000000000) (he : a = b) :
    Calls Try.prog 19 #[.slice A a.length c, .slice B b.length d] W fun e w' => e = .returned (.bool true) ∧ Below W.heap.size W w' :=
  (same_calls W A B c d a b hA hB hc hd hl).mono fun e w' ⟨h1, h2⟩ => ⟨by rw [h1, decide_eq_true he], h2.below⟩
/-- Rows of rows of numbers that are bytes. -/
theorem nums_all : ∀ xs : List (List Int), (∀ x ∈ xs, (x.length * 1 ≤ 140737488351232 ∧ ∀ y ∈ x, (Lit.int .u8 y).wf = true)) → ∃ l : List By, xs = l.map numsL
  | [], _ => ⟨[], rfl⟩
  | x :: xs, h => by
    obtain ⟨l, hl⟩ := nums_all xs (fun y hy => h y (List.mem_cons_of_mem _ hy))
    obtain ⟨b, hb⟩ := nums_of x (h x List.mem_cons_self).2
    exact ⟨b :: l, by rw [hl, hb]; rfl⟩
end Go.Proofs.Ytipclnniaenciaa.Hand
