/- A log's disk where the power goes: what a Crash may leave, as plain data. -/
import Derived.Test.YtipclnniaenciaaLogRest
namespace Go.Proofs.Ytipclnniaenciaa.Hand
open Go.RowKit Go.Maps Go.Proofs.YtipclnniaenciaaW.PrintWords Go.Proofs.YtipclnniaenciaaW.PrintLast Go.Proofs.YtipclnniaenciaaW.PrintMore
set_option linter.unusedVariables false
set_option linter.unusedSimpArgs false
/-- Power, no fuse, and one file at most, as it is seen now. -/
structure Pw (st : DSt) (x : Option By) (c : Int) : Prop where
  down : st.down = false
  fuse : st.fuse = -1
  room : st.room = c
  now : st.now = fA x
theorem good_nA : goodName nA = true := by decide +kernel
theorem good_nN : goodName nN = true := by decide +kernel
section
variable {st : DSt} {x : Option By} {c : Int}
theorem Pw.done (h : Pw st x c) (w : Wr) : doneS st w = ⟨st.sure, st.loose ++ [w], c, -1, false⟩ ∧ doneR st = 0 := by
  obtain ⟨su, lo, ro, fu, dn⟩ := st
  obtain ⟨h1, h2, h3, h4⟩ := h
  cases h1; cases h2; cases h3
  exact ⟨rfl, rfl⟩
theorem now_snoc (su : Fs) (lo : List Wr) (w : Wr) (c f : Int) (d : Bool) : (DSt.mk su (lo ++ [w]) c f d).now = doW (DSt.mk su lo c f d).now w := by
  unfold DSt.now
  rw [List.foldl_append]
  rfl
theorem Pw.now' (h : Pw st x c) (w : Wr) : (DSt.mk st.sure (st.loose ++ [w]) c (-1) false).now = doW (fA x) w := by
  rw [now_snoc, ← h.now]
  rfl
theorem sync_free (su : Fs) (lo : List Wr) (c : Int) : syncS ⟨su, lo, c, -1, false⟩ = ⟨(DSt.mk su lo c (-1) false).now, [], c, -1, false⟩ ∧ doneR ⟨su, lo, c, -1, false⟩ = 0 := ⟨rfl, rfl⟩
theorem Pw.full (h : Pw st x c) (s : ByteArray) (n : Nat) (hn : ((x.getD []).length : Int) + n ≤ c) : fullB st s n = false := by
  unfold fullB
  rw [h.now, used_fA, h.room, Bool.or_eq_false_iff]
  refine ⟨?_, decide_eq_false (by omega)⟩
  rw [Bool.and_eq_false_iff]
  right
  cases x <;> rfl
theorem Pw.app (h : Pw st x c) (b : By) (hn : ((x.getD []).length : Int) + b.length ≤ c) : appendR st nA b.length = 0 ∧ syncS (appendS st nA b) = stF (some (x.getD [] ++ b)) c ∧ doneR (appendS st nA b) = 0 := by
  have ha : appendS st nA b = ⟨st.sure, st.loose ++ [⟨0, nA, ⟨#[]⟩, b⟩], c, -1, false⟩ := by
    unfold appendS
    rw [h.full nA _ hn, good_nA, h.down, (h.done _).1]
    rfl
  refine ⟨by unfold appendR; rw [h.full nA _ hn, good_nA, h.down, (h.done ⟨0, nA, ⟨#[]⟩, b⟩).2]; rfl, ?_, by rw [ha]; rfl⟩
  rw [ha, (sync_free _ _ _).1, h.now']
  cases x <;> rfl
theorem Pw.lay (h : Pw st x c) (rs : List By) (hn : ((x.getD []).length : Int) + (frs rs).length ≤ c) : layR st nA rs = 0 ∧ layS st nA rs = stF (some (frs rs)) c := by
  obtain ⟨b, hb⟩ : ∃ b, b = frs rs := ⟨_, rfl⟩
  rw [← hb] at hn
  have ha : appendS st nN b = ⟨st.sure, st.loose ++ [⟨0, nN, ⟨#[]⟩, b⟩], c, -1, false⟩ := by
    unfold appendS
    rw [h.full nN _ hn, good_nN, h.down, (h.done _).1]
    rfl
  have hr : appendR st nN b.length = 0 := by unfold appendR; rw [h.full nN _ hn, good_nN, h.down, (h.done ⟨0, nN, ⟨#[]⟩, b⟩).2]; rfl
  have hs : syncS (appendS st nN b) = ⟨(nN, b) :: fA x, [], c, -1, false⟩ := by
    rw [ha, (sync_free _ _ _).1, h.now']
    cases x <;> rfl
  have hn : renameR (⟨(nN, b) :: fA x, [], c, -1, false⟩ : DSt) nN nA = 0 := by
    unfold renameR
    rw [good_nA, good_nN]
    cases x <;> rfl
  have hm : renameS (⟨(nN, b) :: fA x, [], c, -1, false⟩ : DSt) nN nA = ⟨(nN, b) :: fA x, [⟨1, nN, nA, []⟩], c, -1, false⟩ := by
    unfold renameS
    rw [good_nA, good_nN]
    cases x <;> rfl
  unfold layR layS
  rw [nN_new, ← hb, hr, hs, hn, hm, ha]
  constructor
  · rfl
  · cases x <;> rfl
theorem Pw.read (h : Pw st x c) : removeS st (newN nA) = st ∧ removeR st (newN nA) = 3 ∧ readB st nA = x.getD [] ∧ goesB (readR st nA) = true ∧ readR st nN = 3 := by
  rw [nN_new]
  refine ⟨?_, ?_, ?_, ?_, ?_⟩
  · unfold removeS; rw [good_nN, h.down, h.now]; cases x <;> rfl
  · unfold removeR; rw [good_nN, h.down, h.now]; cases x <;> rfl
  · unfold readB; rw [good_nA, h.down, h.now]; cases x <;> rfl
  · unfold readR; rw [good_nA, h.down, h.now]; cases x <;> rfl
  · unfold readR; rw [good_nN, h.down, h.now]; cases x <;> rfl
theorem Pw.lapp (h : Pw st x c) (xs : List By) (b : By) (hb : b.length ≤ 262144) (hn : ((x.getD []).length : Int) + b.length + 8 ≤ c) :
    lappR ⟨nA, xs, false⟩ st b = 0 ∧ lappS ⟨nA, xs, false⟩ st b = stF (some (x.getD [] ++ frB b)) c ∧ lappL ⟨nA, xs, false⟩ st b = ⟨nA, xs ++ [b], false⟩ := by
  have hm : mayR ⟨nA, xs, false⟩ [b] = 0 := by unfold mayR; rw [big_one hb]; rfl
  obtain ⟨h1, h2, h3⟩ := h.app (frB b) (by rw [frB_len]; omega)
  unfold lappR lappS lappL
  rw [hm]
  show (if (0 : Int) ≠ 0 then _ else if appendR st nA (frB b).length ≠ 0 then _ else doneR (appendS st nA (frB b))) = 0 ∧ (if (0 : Int) ≠ 0 then _ else if appendR st nA (frB b).length ≠ 0 then _ else syncS (appendS st nA (frB b))) = _ ∧ (if (0 : Int) ≠ 0 then _ else if appendR st nA (frB b).length ≠ 0 then _ else if doneR (appendS st nA (frB b)) ≠ 0 then _ else _) = _
  rw [h1, h2, h3]
  exact ⟨rfl, rfl, rfl⟩
end
/-! ## Two files -/
def fN : Option By → Fs
  | none => []
  | some x => [(nN, x)]
def fl (o : Bool) (X N : Option By) : Fs := if o = true then fN N ++ fA X else fA X ++ fN N
theorem fl_none (o : Bool) (X : Option By) : fl o X none = fA X := by cases o <;> cases X <;> rfl
theorem fl_look (o : Bool) (X N : Option By) : (look nN (fl o X N)).isSome = N.isSome ∧ bytesAt nA (fl o X N) = X.getD [] ∧ bytesAt nN (fl o X N) = N.getD [] ∧ (look nA (fl o X N)).isSome = X.isSome := by cases o <;> cases X <;> cases N <;> exact ⟨rfl, rfl, rfl, rfl⟩
theorem fl_appN (o : Bool) (X N : Option By) (b : By) : doW (fl o X N) ⟨0, nN, ⟨#[]⟩, b⟩ = fl true X (some (N.getD [] ++ b)) := by cases o <;> cases X <;> cases N <;> rfl
theorem fl_rem (o : Bool) (X N : Option By) : doW (fl o X N) ⟨2, nN, ⟨#[]⟩, []⟩ = fl o X none := by cases o <;> cases X <;> cases N <;> rfl
theorem fl_ren (o : Bool) (X : Option By) (b : By) : doW (fl o X (some b)) ⟨1, nN, nA, []⟩ = fl false (some b) none := by cases o <;> cases X <;> rfl
theorem fl_appA (X : Option By) (b : By) : doW (fA X) ⟨0, nA, ⟨#[]⟩, b⟩ = fA (some (X.getD [] ++ b)) := by cases X <;> rfl
/-- A write that leaves the log's file alone. -/
def Ldn (w : Wr) : Prop := (∃ b, w = ⟨0, nN, ⟨#[]⟩, b⟩) ∨ w = ⟨2, nN, ⟨#[]⟩, []⟩
theorem Ldn.do {w : Wr} (h : Ldn w) (o : Bool) (X N : Option By) : ∃ o' N', doW (fl o X N) w = fl o' X N' := by
  rcases h with ⟨b, rfl⟩ | rfl
  · exact ⟨_, _, fl_appN o X N b⟩
  · exact ⟨_, _, fl_rem o X N⟩
theorem Ldn.torn {w : Wr} (h : Ldn w) (hk : w.kind = 0) (n : Nat) : Ldn { w with b := w.b.take n } := by
  rcases h with ⟨b, rfl⟩ | rfl
  · exact .inl ⟨b.take n, rfl⟩
  · exact absurd hk (by decide)
theorem Ldn.fold : ∀ (ls : List Wr), (∀ w ∈ ls, Ldn w) → ∀ (o : Bool) (X N : Option By), ∃ o' N', ls.foldl doW (fl o X N) = fl o' X N'
  | [], _, o, X, N => ⟨o, N, rfl⟩
  | w :: ls, h, o, X, N => by
    obtain ⟨o1, N1, h1⟩ := (h w List.mem_cons_self).do o X N
    obtain ⟨o2, N2, h2⟩ := Ldn.fold ls (fun x hx => h x (List.mem_cons_of_mem _ hx)) o1 X N1
    exact ⟨o2, N2, by rw [List.foldl_cons, h1, h2]⟩
/-- Whatever a Crash leaves of it is as P wants it. -/
def CG (P : Option By → Prop) (st : DSt) : Prop := ∀ keep torn : Int, ∃ o X N, crashS st keep torn = ⟨fl o X N, [], st.room, -1, false⟩ ∧ P X
/-- The log's file is X, and all that is loose leaves it alone. -/
def G1 (X : Option By) (st : DSt) : Prop := (∃ o N, st.sure = fl o X N) ∧ ∀ w ∈ st.loose, Ldn w
section
variable {P : Option By → Prop} {X : Option By} {st : DSt}
theorem G1.now (h : G1 X st) : ∃ o N, st.now = fl o X N := by
  obtain ⟨⟨o, N, hs⟩, hl⟩ := h
  obtain ⟨o', N', h'⟩ := Ldn.fold st.loose hl o X N
  exact ⟨o', N', by unfold DSt.now; rw [hs, h']⟩
theorem G1.cg (h : G1 X st) (hP : P X) : CG P st := by
  obtain ⟨⟨o, N, hs⟩, hl⟩ := h
  intro keep torn
  have htk : ∀ w ∈ st.loose.take (keepN st keep), Ldn w := fun w hw => hl w (List.mem_of_mem_take hw)
  obtain ⟨o1, N1, h1⟩ := Ldn.fold _ htk o X N
  unfold crashS crashF
  rw [hs, h1]
  cases hk : st.loose[keepN st keep]? with
  | none => exact ⟨o1, X, N1, rfl, hP⟩
  | some w =>
    have hw := hl w (List.mem_of_getElem? hk)
    dsimp only
    split
    · rename_i hc
      obtain ⟨o2, N2, h2⟩ := (hw.torn hc.1 torn.toNat).do o1 X N1
      exact ⟨o2, X, N2, by rw [h2], hP⟩
    · exact ⟨o1, X, N1, rfl, hP⟩
theorem G1.burn (h : G1 X st) : G1 X (burnS st) := by
  have hb := burnS_loose st
  unfold G1
  rw [hb.1, hb.2.1]
  exact h
theorem G1.done (h : G1 X st) {w : Wr} (hw : Ldn w) : G1 X (doneS st w) := by
  unfold doneS
  split
  · refine ⟨by rw [show ({ burnS st with loose := st.loose ++ [w] } : DSt).sure = st.sure from (burnS_loose st).2.1]; exact h.1, fun v hv => ?_⟩
    rcases List.mem_append.1 hv with hv | hv
    · exact h.2 v hv
    · rw [List.mem_singleton.1 hv]; exact hw
  · exact h.burn
theorem G1.app (h : G1 X st) (b : By) : G1 X (appendS st nN b) := by
  unfold appendS
  split
  · exact h
  · split
    · exact h
    · split
      · exact h
      · exact h.done (.inl ⟨b, rfl⟩)
theorem G1.rem (h : G1 X st) : G1 X (removeS st nN) := by
  unfold removeS
  split
  · exact h
  · split
    · exact h
    · split
      · exact h
      · exact h.done (.inr rfl)
theorem G1.sync (h : G1 X st) : G1 X (syncS st) := by
  unfold syncS
  split
  · obtain ⟨o, N, hn⟩ := h.now
    exact ⟨⟨o, N, hn⟩, fun w hw => by cases hw⟩
  · exact h.burn
/-- The rename is loose. -/
theorem ren_cg {o : Bool} {B : By} (hs : st.sure = fl o X (some B)) (hl : st.loose = [⟨1, nN, nA, []⟩]) (h1 : P X) (h2 : P (some B)) : CG P st := by
  intro keep torn
  have hk : keepN st keep = 0 ∨ keepN st keep = 1 := by
    unfold keepN
    rw [hl]
    show (if keep < 0 then 0 else if ((1 : Nat) : Int) < keep then 1 else keep.toNat) = 0 ∨ (if keep < 0 then 0 else if ((1 : Nat) : Int) < keep then 1 else keep.toNat) = 1
    split
    · exact .inl rfl
    · split
      · exact .inr rfl
      · omega
  unfold crashS crashF
  rw [hs, hl]
  rcases hk with hk | hk
  · rw [hk]
    exact ⟨o, X, some B, rfl, h1⟩
  · rw [hk]
    refine ⟨false, some B, none, ?_, h2⟩
    show (⟨doW (fl o X (some B)) ⟨1, nN, nA, []⟩, [], st.room, -1, false⟩ : DSt) = _
    rw [fl_ren]
/-- An append to the log's file is loose. -/
theorem app_cg {b : By} (hs : st.sure = fA X) (hl : st.loose = [⟨0, nA, ⟨#[]⟩, b⟩]) (h1 : P X) (h2 : ∀ t, P (some (X.getD [] ++ b.take t))) : CG P st := by
  intro keep torn
  have hk : keepN st keep = 0 ∨ keepN st keep = 1 := by
    unfold keepN
    rw [hl]
    show (if keep < 0 then 0 else if ((1 : Nat) : Int) < keep then 1 else keep.toNat) = 0 ∨ (if keep < 0 then 0 else if ((1 : Nat) : Int) < keep then 1 else keep.toNat) = 1
    split
    · exact .inl rfl
    · split
      · exact .inr rfl
      · omega
  unfold crashS crashF
  rw [hs, hl]
  rcases hk with hk | hk
  · rw [hk]
    by_cases ht : 0 ≤ torn
    · refine ⟨false, some (X.getD [] ++ b.take torn.toNat), none, ?_, h2 _⟩
      show (⟨if (0 : Int) = 0 ∧ 0 ≤ torn then doW (fA X) ⟨0, nA, ⟨#[]⟩, b.take torn.toNat⟩ else fA X, [], st.room, -1, false⟩ : DSt) = _
      rw [if_pos ⟨rfl, ht⟩, fl_appA, fl_none]
    · refine ⟨false, X, none, ?_, h1⟩
      show (⟨if (0 : Int) = 0 ∧ 0 ≤ torn then doW (fA X) ⟨0, nA, ⟨#[]⟩, b.take torn.toNat⟩ else fA X, [], st.room, -1, false⟩ : DSt) = _
      rw [if_neg (fun h => ht h.2), fl_none]
  · rw [hk]
    refine ⟨false, some (X.getD [] ++ b), none, ?_, by have := h2 b.length; rw [List.take_length] at this; exact this⟩
    show (⟨doW (fA X) ⟨0, nA, ⟨#[]⟩, b⟩, [], st.room, -1, false⟩ : DSt) = _
    rw [fl_appA, fl_none]
end
/-! ## Steps under a fuse -/
theorem burn_yes {st : DSt} (h : doneR st = 0) : burnB st = true := by
  unfold doneR at h
  cases hb : burnB st with
  | true => rfl
  | false => rw [hb] at h; cases h
theorem app_zero {st : DSt} {s : ByteArray} {b : By} (h : appendR st s b.length = 0) : burnB st = true ∧ appendS st s b = { burnS st with loose := st.loose ++ [⟨0, s, ⟨#[]⟩, b⟩] } := by
  unfold appendR at h
  unfold appendS
  cases hg : goodName s with
  | false => rw [hg] at h; cases h
  | true =>
    rw [hg] at h
    cases hd : st.down with
    | true => rw [hd] at h; cases h
    | false =>
      rw [hd] at h
      cases hf : fullB st s b.length with
      | true => rw [hf] at h; cases h
      | false =>
        rw [hf] at h
        have hb := burn_yes (show doneR st = 0 from h)
        refine ⟨hb, ?_⟩
        show doneS st _ = _
        unfold doneS
        rw [hb]
        rfl
theorem ren_zero {st : DSt} {s u : ByteArray} (h : renameR st s u = 0) : burnB st = true ∧ renameS st s u = { burnS st with loose := st.loose ++ [⟨1, s, u, []⟩] } := by
  unfold renameR at h
  unfold renameS
  cases hg : goodName s with
  | false => rw [hg] at h; cases h
  | true =>
    rw [hg] at h
    cases hg2 : goodName u with
    | false => rw [hg2] at h; cases h
    | true =>
      rw [hg2] at h
      cases hd : st.down with
      | true => rw [hd] at h; cases h
      | false =>
        rw [hd] at h
        cases hf : (look s st.now).isSome with
        | false => rw [hf] at h; cases h
        | true =>
          rw [hf] at h
          have hb := burn_yes (show doneR st = 0 from h)
          refine ⟨hb, ?_⟩
          show doneS st _ = _
          unfold doneS
          rw [hb]
          rfl
theorem ren_not {st : DSt} {s u : ByteArray} (h : renameR st s u ≠ 0) : renameS st s u = st ∨ renameS st s u = burnS st := by
  unfold renameR at h
  unfold renameS
  split
  · exact .inl rfl
  · rename_i h1
    split
    · exact .inl rfl
    · rename_i h2
      split
      · exact .inl rfl
      · rename_i h3
        split
        · exact .inl rfl
        · rename_i h4
          rw [if_neg h1, if_neg h2, if_neg h3, if_neg h4] at h
          right
          unfold doneS
          unfold doneR at h
          cases hb : burnB st with
          | true => rw [hb] at h; exact absurd rfl h
          | false => rfl
section
variable {P : Option By → Prop} {X : Option By} {st : DSt}
theorem lay_cg (h : G1 X st) (hn : st.now = fA X) (rs : List By) (hP : P X) (hB : P (some (frs rs))) : CG P (layS st nA rs) := by
  obtain ⟨B, hBe⟩ : ∃ B, B = frs rs := ⟨_, rfl⟩
  unfold layS
  rw [nN_new, ← hBe]
  rw [← hBe] at hB
  by_cases h1 : appendR st nN B.length = 0
  · rw [if_neg (fun g => g h1)]
    obtain ⟨hb, ha⟩ := app_zero h1
    have hg1 := h.app B
    by_cases h2 : doneR (appendS st nN B) = 0
    · rw [if_neg (fun g => g h2)]
      have hb2 := burn_yes h2
      have hnow : (appendS st nN B).now = fl true X (some B) := by
        rw [ha]
        show (st.loose ++ [(⟨0, nN, ⟨#[]⟩, B⟩ : Wr)]).foldl doW (burnS st).sure = _
        rw [List.foldl_append, (burnS_loose st).2.1]
        show doW st.now ⟨0, nN, ⟨#[]⟩, B⟩ = _
        rw [hn, ← fl_none false X, fl_appN]
        rfl
      have hs2 : syncS (appendS st nN B) = { burnS (appendS st nN B) with sure := fl true X (some B), loose := [] } := by
        unfold syncS
        rw [hb2, hnow]
        rfl
      obtain ⟨s2, hs2'⟩ : ∃ s, s = syncS (appendS st nN B) := ⟨_, rfl⟩
      rw [← hs2'] at hs2 ⊢
      have e1 : s2.sure = fl true X (some B) := by rw [hs2]
      have e2 : s2.loose = [] := by rw [hs2]
      have hg2 : G1 X s2 := ⟨⟨true, some B, e1⟩, fun w hw => by rw [e2] at hw; cases hw⟩
      by_cases h3 : renameR s2 nN nA = 0
      · rw [if_neg (fun g => g h3)]
        obtain ⟨hb3, hr⟩ := ren_zero h3
        rw [hr]
        have e3 : ({ burnS s2 with loose := s2.loose ++ [⟨1, nN, nA, []⟩] } : DSt).sure = fl true X (some B) := by rw [← e1]; exact (burnS_loose s2).2.1
        have e4 : ({ burnS s2 with loose := s2.loose ++ [⟨1, nN, nA, []⟩] } : DSt).loose = [⟨1, nN, nA, []⟩] := by rw [e2]; rfl
        obtain ⟨s3, hs3⟩ : ∃ s : DSt, s = { burnS s2 with loose := s2.loose ++ [⟨1, nN, nA, []⟩] } := ⟨_, rfl⟩
        rw [← hs3] at e3 e4 ⊢
        unfold syncS
        split
        · have e5 : s3.now = fl false (some B) none := by
            unfold DSt.now
            rw [e3, e4]
            exact fl_ren true X B
          exact G1.cg (X := some B) ⟨⟨false, none, e5⟩, fun w hw => by cases hw⟩ hB
        · have hb4 := burnS_loose s3
          exact ren_cg (by rw [hb4.2.1]; exact e3) (by rw [hb4.1]; exact e4) hP hB
      · rw [if_pos h3]
        rcases ren_not h3 with e | e
        · rw [e]; exact hg2.cg hP
        · rw [e]; exact hg2.burn.cg hP
    · rw [if_pos h2]
      exact G1.cg (X := X) (st := syncS (appendS st nN B)) hg1.sync hP
  · rw [if_pos h1]
    exact (h.app B).cg hP
/-- What Open leaves, a Crash may fall on. -/
theorem op_cg {o : Bool} {N : Option By} (hs : st.sure = fl o X N) (hl : st.loose = []) (hP : P X) (hB : P (some (frs (splB (X.getD []))))) : CG P (opS st nA) := by
  have hg : G1 X st := ⟨⟨o, N, hs⟩, fun w hw => by rw [hl] at hw; cases hw⟩
  have hnow : st.now = fl o X N := by unfold DSt.now; rw [hs, hl]; rfl
  have hl' : logGood nA = true := by decide +kernel
  unfold opS
  rw [hl', nN_new, if_neg (by decide)]
  by_cases h1 : goesB (removeR st nN) = false
  · rw [if_pos h1]
    exact G1.cg (X := X) hg.rem hP
  · rw [if_neg h1]
    have hd : st.down = false := by
      cases hd : st.down with
      | false => rfl
      | true =>
        refine absurd ?_ h1
        unfold removeR
        rw [good_nN, hd]
        rfl
    have hr : (removeS st nN).now = fA X := by
      unfold removeS
      rw [good_nN, hd, hnow, (fl_look o X N).1, if_neg (by decide), if_neg (by decide)]
      cases hN : N with
      | none =>
        subst hN
        show (if (none : Option By).isSome = false then st else _).now = _
        rw [if_pos (show (none : Option By).isSome = false from rfl), hnow, fl_none]
      | some n =>
        subst hN
        show (if (some n : Option By).isSome = false then st else doneS st ⟨2, nN, ⟨#[]⟩, []⟩).now = _
        rw [if_neg (by simp)]
        have hb : burnB st = true := by
          refine burn_yes ?_
          have : removeR st nN = doneR st := by
            unfold removeR
            rw [good_nN, hd, hnow, (fl_look o X (some n)).1]
            rfl
          rw [this] at h1
          unfold doneR at h1 ⊢
          cases hb : burnB st with
          | true => rfl
          | false => rw [hb] at h1; exact absurd rfl h1
        unfold doneS
        rw [hb]
        show (st.loose ++ [(⟨2, nN, ⟨#[]⟩, []⟩ : Wr)]).foldl doW (burnS st).sure = _
        rw [List.foldl_append, (burnS_loose st).2.1]
        show doW st.now ⟨2, nN, ⟨#[]⟩, []⟩ = _
        rw [hnow, fl_rem, fl_none]
    obtain ⟨s1, hs1⟩ : ∃ s, s = removeS st nN := ⟨_, rfl⟩
    have hg1 : G1 X s1 := by rw [hs1]; exact hg.rem
    rw [← hs1] at hr ⊢
    by_cases h2 : goesB (readR s1 nA) = false
    · rw [if_pos h2]
      exact hg1.cg hP
    · rw [if_neg h2]
      have hrd : readB s1 nA = X.getD [] := by
        have hd1 : s1.down = false := by
          cases hd1 : s1.down with
          | false => rfl
          | true =>
            refine absurd ?_ h2
            unfold readR
            rw [good_nA, hd1]
            rfl
        unfold readB
        rw [good_nA, hd1, hr]
        cases X <;> rfl
      rw [hrd]
      split
      · exact lay_cg hg1 hr _ hP hB
      · exact hg1.cg hP
end
/-! ## What an action leaves -/
def stP (x : Option By) (c F : Int) : DSt := ⟨fA x, [], c, F, false⟩
theorem fuse_done (su : Fs) (lo : List Wr) (c F : Int) (hF : 1 ≤ F) (w : Wr) : doneS ⟨su, lo, c, F, false⟩ w = ⟨su, lo ++ [w], c, F - 1, false⟩ ∧ doneR ⟨su, lo, c, F, false⟩ = 0 ∧ syncS ⟨su, lo, c, F, false⟩ = ⟨(DSt.mk su lo c F false).now, [], c, F - 1, false⟩ := by
  have hb : burnB ⟨su, lo, c, F, false⟩ = true := by
    unfold burnB
    show (true && !(F == 0)) = true
    rw [show (F == 0) = false from beq_eq_false_iff_ne.2 (by omega)]
    rfl
  have hs : burnS ⟨su, lo, c, F, false⟩ = ⟨su, lo, c, F - 1, false⟩ := by
    unfold burnS
    rw [if_neg (by simp), if_neg (show ¬ (DSt.mk su lo c F false).fuse = 0 from fun h => by have h' : F = 0 := h; omega), if_pos (show 0 < (DSt.mk su lo c F false).fuse from by show 0 < F; omega)]
  unfold doneS doneR syncS
  rw [hb, hs]
  exact ⟨rfl, rfl, rfl⟩
theorem fuse_out (su : Fs) (lo : List Wr) (c : Int) (w : Wr) : doneS ⟨su, lo, c, 0, false⟩ w = ⟨su, lo, c, 0, true⟩ ∧ doneR ⟨su, lo, c, 0, false⟩ = 6 ∧ syncS ⟨su, lo, c, 0, false⟩ = ⟨su, lo, c, 0, true⟩ := ⟨rfl, rfl, rfl⟩
section
variable {P : Option By → Prop} {x : Option By} {c F : Int}
theorem zz : ¬ ((0 : Int) ≠ 0) := by decide
theorem stP_g1 : G1 x (stP x c F) := ⟨⟨false, none, (fl_none false x).symm⟩, fun w hw => by cases hw⟩
theorem stP_full (s : ByteArray) (n : Nat) (hn : ((x.getD []).length : Int) + n ≤ c) : fullB (stP x c F) s n = false := by
  unfold fullB
  rw [show (stP x c F).now = fA x from rfl, used_fA, Bool.or_eq_false_iff]
  refine ⟨?_, decide_eq_false (by show ¬ c < _; omega)⟩
  rw [Bool.and_eq_false_iff]
  right
  cases x <;> rfl
theorem stP_app (s : ByteArray) (hg : goodName s = true) (b : By) (hn : ((x.getD []).length : Int) + b.length ≤ c) : appendR (stP x c F) s b.length = doneR (stP x c F) ∧ appendS (stP x c F) s b = doneS (stP x c F) ⟨0, s, ⟨#[]⟩, b⟩ := by
  unfold appendR appendS
  rw [stP_full s _ hn, hg]
  exact ⟨rfl, rfl⟩
theorem lapp_power (hF : 0 ≤ F) (xs : List By) (b : By) (hb : b.length ≤ 262144) (hn : ((x.getD []).length : Int) + b.length + 8 ≤ c) (hP : P x) (hT : ∀ t, P (some (x.getD [] ++ (frB b).take t))) :
    (lappR ⟨nA, xs, false⟩ (stP x c F) b = 0 ∧ ∃ F', 0 ≤ F' ∧ F' ≤ F ∧ lappS ⟨nA, xs, false⟩ (stP x c F) b = stP (some (x.getD [] ++ frB b)) c F' ∧ lappL ⟨nA, xs, false⟩ (stP x c F) b = ⟨nA, xs ++ [b], false⟩) ∨
    (lappR ⟨nA, xs, false⟩ (stP x c F) b = 6 ∧ CG P (lappS ⟨nA, xs, false⟩ (stP x c F) b)) := by
  have hm : mayR ⟨nA, xs, false⟩ [b] = 0 := by unfold mayR; rw [big_one hb]; rfl
  obtain ⟨h1, h2⟩ := stP_app (x := x) (c := c) (F := F) nA good_nA (frB b) (by rw [frB_len]; omega)
  unfold lappR lappS lappL
  rw [hm]
  show ((if (0 : Int) ≠ 0 then _ else if appendR (stP x c F) nA (frB b).length ≠ 0 then _ else doneR (appendS (stP x c F) nA (frB b))) = 0 ∧ ∃ F', 0 ≤ F' ∧ F' ≤ F ∧ (if (0 : Int) ≠ 0 then _ else if appendR (stP x c F) nA (frB b).length ≠ 0 then _ else syncS (appendS (stP x c F) nA (frB b))) = _ ∧ (if (0 : Int) ≠ 0 then _ else if appendR (stP x c F) nA (frB b).length ≠ 0 then _ else if doneR (appendS (stP x c F) nA (frB b)) ≠ 0 then _ else _) = _) ∨ ((if (0 : Int) ≠ 0 then _ else if appendR (stP x c F) nA (frB b).length ≠ 0 then _ else doneR (appendS (stP x c F) nA (frB b))) = 6 ∧ CG P (if (0 : Int) ≠ 0 then _ else if appendR (stP x c F) nA (frB b).length ≠ 0 then _ else syncS (appendS (stP x c F) nA (frB b))))
  rw [h1, h2, if_neg zz, if_neg zz, if_neg zz]
  by_cases h0 : F = 0
  · subst h0
    right
    refine ⟨rfl, ?_⟩
    exact G1.cg (X := x) (st := ⟨fA x, [], c, 0, true⟩) ⟨⟨false, none, (fl_none false x).symm⟩, fun w hw => by cases hw⟩ hP
  · obtain ⟨g1, g2, _⟩ := fuse_done (fA x) [] c F (by omega) ⟨0, nA, ⟨#[]⟩, frB b⟩
    rw [show doneR (stP x c F) = 0 from g2, show doneS (stP x c F) ⟨0, nA, ⟨#[]⟩, frB b⟩ = _ from g1]
    by_cases h1 : F = 1
    · subst h1
      right
      refine ⟨rfl, ?_⟩
      exact app_cg (X := x) (b := frB b) (st := ⟨fA x, [⟨0, nA, ⟨#[]⟩, frB b⟩], c, 0, true⟩) rfl rfl hP hT
    · left
      obtain ⟨_, g3, g4⟩ := fuse_done (fA x) ([] ++ [⟨0, nA, ⟨#[]⟩, frB b⟩]) c (F - 1) (by omega) ⟨0, nA, ⟨#[]⟩, frB b⟩
      rw [g3, g4]
      refine ⟨rfl, F - 1 - 1, by omega, by omega, ?_, rfl⟩
      show (⟨doW (fA x) ⟨0, nA, ⟨#[]⟩, frB b⟩, [], c, F - 1 - 1, false⟩ : DSt) = _
      rw [fl_appA]
      rfl
theorem lcom_power (hF : 0 ≤ F) (xs rs : List By) (hb : ∀ b ∈ rs, b.length ≤ 262144) (hn : ((x.getD []).length : Int) + (frs rs).length ≤ c) (hP : P x) (hB : P (some (frs rs))) :
    (lcomR ⟨nA, xs, false⟩ (stP x c F) rs = 0 ∧ ∃ F', 0 ≤ F' ∧ F' ≤ F ∧ lcomS ⟨nA, xs, false⟩ (stP x c F) rs = stP (some (frs rs)) c F' ∧ lcomL ⟨nA, xs, false⟩ (stP x c F) rs = ⟨nA, rs, false⟩) ∨
    (lcomR ⟨nA, xs, false⟩ (stP x c F) rs = 6 ∧ CG P (lcomS ⟨nA, xs, false⟩ (stP x c F) rs)) := by
  have hm : mayR ⟨nA, xs, false⟩ rs = 0 := by unfold mayR; rw [big_all hb]; rfl
  have hcg := lay_cg (P := P) (stP_g1 (x := x) (c := c) (F := F)) rfl rs hP hB
  have key : (layR (stP x c F) nA rs = 0 ∧ ∃ F', 0 ≤ F' ∧ F' ≤ F ∧ layS (stP x c F) nA rs = stP (some (frs rs)) c F') ∨ layR (stP x c F) nA rs = 6 := by
    obtain ⟨B, hBe⟩ : ∃ B, B = frs rs := ⟨_, rfl⟩
    rw [← hBe] at hn
    obtain ⟨h1, h2⟩ := stP_app (x := x) (c := c) (F := F) nN good_nN B hn
    unfold layR layS
    rw [nN_new, ← hBe, h1, h2]
    by_cases h0 : F = 0
    · subst h0
      exact .inr rfl
    · obtain ⟨g1, g2, _⟩ := fuse_done (fA x) [] c F (by omega) ⟨0, nN, ⟨#[]⟩, B⟩
      rw [show doneR (stP x c F) = 0 from g2, show doneS (stP x c F) ⟨0, nN, ⟨#[]⟩, B⟩ = _ from g1, if_neg zz, if_neg zz]
      by_cases h1 : F = 1
      · subst h1
        exact .inr rfl
      · obtain ⟨_, g3, g4⟩ := fuse_done (fA x) ([] ++ [⟨0, nN, ⟨#[]⟩, B⟩]) c (F - 1) (by omega) ⟨0, nN, ⟨#[]⟩, B⟩
        have g4' : syncS ⟨fA x, [] ++ [⟨0, nN, ⟨#[]⟩, B⟩], c, F - 1, false⟩ = ⟨(nN, B) :: fA x, [], c, F - 1 - 1, false⟩ := by
          rw [g4]
          show (⟨doW (fA x) ⟨0, nN, ⟨#[]⟩, B⟩, [], c, F - 1 - 1, false⟩ : DSt) = _
          cases x <;> rfl
        rw [g3, g4', if_neg zz, if_neg zz]
        have r1 : renameR (⟨(nN, B) :: fA x, [], c, F - 1 - 1, false⟩ : DSt) nN nA = doneR ⟨(nN, B) :: fA x, [], c, F - 1 - 1, false⟩ := by
          unfold renameR
          rw [good_nA, good_nN]
          cases x <;> rfl
        have r2 : renameS (⟨(nN, B) :: fA x, [], c, F - 1 - 1, false⟩ : DSt) nN nA = doneS ⟨(nN, B) :: fA x, [], c, F - 1 - 1, false⟩ ⟨1, nN, nA, []⟩ := by
          unfold renameS
          rw [good_nA, good_nN]
          cases x <;> rfl
        rw [r1, r2]
        by_cases h2 : F = 2
        · subst h2
          exact .inr rfl
        · obtain ⟨g5, g6, _⟩ := fuse_done ((nN, B) :: fA x) [] c (F - 1 - 1) (by omega) ⟨1, nN, nA, []⟩
          rw [g5, g6, if_neg zz, if_neg zz]
          by_cases h3 : F = 3
          · subst h3
            exact .inr rfl
          · obtain ⟨_, g7, g8⟩ := fuse_done ((nN, B) :: fA x) ([] ++ [⟨1, nN, nA, []⟩]) c (F - 1 - 1 - 1) (by omega) ⟨1, nN, nA, []⟩
            rw [g7, g8]
            refine .inl ⟨rfl, F - 1 - 1 - 1 - 1, by omega, by omega, ?_⟩
            show (⟨doW ((nN, B) :: fA x) ⟨1, nN, nA, []⟩, [], c, F - 1 - 1 - 1 - 1, false⟩ : DSt) = _
            cases x <;> rfl
  unfold lcomR lcomS lcomL
  rw [hm]
  show ((if (0 : Int) ≠ 0 then _ else layR (stP x c F) nA rs) = 0 ∧ ∃ F', 0 ≤ F' ∧ F' ≤ F ∧ (if (0 : Int) ≠ 0 then _ else layS (stP x c F) nA rs) = _ ∧ (if (0 : Int) ≠ 0 then _ else if layR (stP x c F) nA rs ≠ 0 then _ else _) = _) ∨ ((if (0 : Int) ≠ 0 then _ else layR (stP x c F) nA rs) = 6 ∧ CG P (if (0 : Int) ≠ 0 then _ else layS (stP x c F) nA rs))
  rw [if_neg zz, if_neg zz, if_neg zz]
  rcases key with ⟨h1, F', h2, h3, h4⟩ | h1
  · left
    rw [h1]
    exact ⟨rfl, F', h2, h3, h4, rfl⟩
  · right
    exact ⟨h1, hcg⟩
end
/-! ## What the law asks -/
/-- The log's file says what was, or what was being done. -/
def Pn (now thn : List By) (X : Option By) : Prop := (X.getD []).length ≤ 100000 ∧ (splB (X.getD []) = now ∨ splB (X.getD []) = thn)
theorem splB_few (b : By) : ∀ y ∈ splB b, y.length ≤ 262144 := (splB_front b).2
theorem Pn.fix {now thn : List By} {X : Option By} (h : Pn now thn X) : Pn now thn (some (frs (splB (X.getD [])))) := by
  refine ⟨?_, ?_⟩
  · show (frs (splB (X.getD []))).length ≤ _
    have := spl_le (X.getD [])
    have := h.1
    omega
  · show splB (frs (splB (X.getD []))) = _ ∨ splB (frs (splB (X.getD []))) = _
    rw [splB_whole _ (splB_few _)]
    exact h.2
theorem Pn.of {now thn : List By} {x : Option By} (hx : x.getD [] = frs now) (hl : (frs now).length ≤ 100000) (hs : ∀ b ∈ now, b.length ≤ 262144) : Pn now thn x := ⟨by rw [hx]; exact hl, .inl (by rw [hx]; exact splB_whole _ hs)⟩
theorem Pn.app {now : List By} {b : By} (hl : (frs now).length ≤ 50000) (hs : ∀ b ∈ now, b.length ≤ 262144) (hb : b.length ≤ 10000) {x : Option By} (hx : x.getD [] = frs now) (t : Nat) : Pn now (now ++ [b]) (some (x.getD [] ++ (frB b).take t)) := by
  have hlb := frB_len b
  refine ⟨?_, ?_⟩
  · show (x.getD [] ++ (frB b).take t).length ≤ _
    rw [List.length_append, List.length_take, hx]
    omega
  · show splB (x.getD [] ++ (frB b).take t) = _ ∨ splB (x.getD [] ++ (frB b).take t) = _
    rw [hx]
    by_cases ht : t < b.length + 8
    · exact .inl (splB_frs now b t hs (by omega) ht)
    · right
      rw [List.take_of_length_le (by omega), ← frs_snoc, splB_whole]
      intro y hy
      rcases List.mem_append.1 hy with hy | hy
      · exact hs y hy
      · rw [List.mem_singleton.1 hy]; omega
theorem Pn.lay {now rs : List By} (hl : (frs rs).length ≤ 100000) (hs : ∀ b ∈ rs, b.length ≤ 262144) : Pn now rs (some (frs rs)) := ⟨hl, .inr (splB_whole _ hs)⟩
/-! ## Sizes -/
theorem fit_lay {st : DSt} {s : ByteArray} {rs : List By} {n m : Nat} (h : st.Fit (n + (frs rs).length) (m + 2)) : (layS st s rs).Fit n m := by
  have h1 : (appendS st (newN s) (frs rs)).Fit n (m + 1) := DSt.Fit.append h
  unfold layS
  split
  · exact h1.less (by omega) (by omega)
  · split
    · exact h1.sync.less (by omega) (by omega)
    · split
      · exact DSt.Fit.rename h1.sync
      · exact (DSt.Fit.rename h1.sync).sync
theorem fit_lapp {l : LSt} {st : DSt} {b : By} {n m : Nat} (h : st.Fit (n + (frB b).length) (m + 1)) : (lappS l st b).Fit n m := by
  have h1 : (appendS st l.name (frB b)).Fit n m := DSt.Fit.append h
  unfold lappS
  split
  · exact h.less (by omega) (by omega)
  · split
    · exact h1
    · exact h1.sync
theorem fit_lcom {l : LSt} {st : DSt} {rs : List By} {n m : Nat} (h : st.Fit (n + (frs rs).length) (m + 2)) : (lcomS l st rs).Fit n m := by
  unfold lcomS
  split
  · exact h.less (by omega) (by omega)
  · exact fit_lay h
theorem stP_fit (x : Option By) (c F : Int) (hx : (x.getD []).length ≤ 100000) (h0 : 0 ≤ F) (h1 : F ≤ 9223372036854775807) : (stP x c F).Fit 4000000 400 := by
  have := (stF_fit x c 4000000 400 (by unfold maxB; omega) (by decide)).fuse (k := F) h1
  unfold fuseS at this
  rw [if_neg (by omega)] at this
  exact this
theorem rem_read {X : Option By} {st : DSt} (h : G1 X st) : readB (removeS st (newN nA)) nA = [] ∨ readB (removeS st (newN nA)) nA = X.getD [] := by
  rw [nN_new]
  obtain ⟨o, N, hn⟩ := h.rem.now
  unfold readB
  rw [good_nA]
  split
  · exact .inl rfl
  · split
    · exact .inl rfl
    · rw [hn, (fl_look o X N).2.1]
      exact .inr rfl
theorem rem_le {X : Option By} {st : DSt} (h : G1 X st) (hX : (X.getD []).length ≤ 100000) : (readB (removeS st (newN nA)) nA).length ≤ 100000 ∧ (frs (splB (readB (removeS st (newN nA)) nA))).length ≤ 100000 ∧ (splB (readB (removeS st (newN nA)) nA)).length ≤ 100000 := by
  have h1 : (readB (removeS st (newN nA)) nA).length ≤ 100000 := by
    rcases rem_read h with e | e
    · rw [e]; exact Nat.zero_le _
    · rw [e]; exact hX
  have h2 := spl_le (readB (removeS st (newN nA)) nA)
  have h3 := frs_ge (splB (readB (removeS st (newN nA)) nA))
  omega
theorem fit_op {X : Option By} {st : DSt} (hg : G1 X st) (hX : (X.getD []).length ≤ 100000) {n m : Nat} (h : st.Fit (n + 100000) (m + 3)) : (opS st nA).Fit n m := by
  have h1 : (removeS st (newN nA)).Fit (n + 100000) (m + 2) := DSt.Fit.remove h
  have hl := (rem_le hg hX).2.1
  unfold opS
  split
  · exact h.less (by omega) (by omega)
  · split
    · exact h1.less (by omega) (by omega)
    · split
      · exact h1.less (by omega) (by omega)
      · split
        · exact fit_lay (h1.less (by omega) (by omega))
        · exact h1.less (by omega) (by omega)
/-! ## Between a Crash and the next -/
def stC (o : Bool) (X N : Option By) (c : Int) : DSt := ⟨fl o X N, [], c, -1, false⟩
theorem stC_g1 (o : Bool) (X N : Option By) (c k : Int) : G1 X (fuseS (stC o X N c) k) := ⟨⟨o, N, rfl⟩, fun w hw => by cases hw⟩
theorem again_cg {o : Bool} {X N : Option By} {c k : Int} {now thn : List By} (h : Pn now thn X) : CG (Pn now thn) (opS (fuseS (stC o X N c) k) nA) := op_cg (o := o) (N := N) rfl rfl h h.fix
/-- Open, with power and no fuse. -/
theorem last_open {o : Bool} {X N : Option By} {now thn : List By} (h : Pn now thn X) : opR (stC o X N 16777216) nA = 0 ∧ opL (stC o X N 16777216) nA = ⟨nA, splB (X.getD []), false⟩ := by
  have hp : Pw (removeS (stC o X N 16777216) (newN nA)) X 16777216 ∧ goesB (removeR (stC o X N 16777216) (newN nA)) = true := by
    rw [nN_new]
    cases N with
    | none =>
      have e : removeS (stC o X none 16777216) nN = stC o X none 16777216 := by
        unfold removeS
        rw [good_nN]
        cases o <;> cases X <;> rfl
      rw [e]
      refine ⟨⟨rfl, rfl, rfl, fl_none o X⟩, ?_⟩
      unfold removeR
      rw [good_nN]
      cases o <;> cases X <;> rfl
    | some n =>
      have e : removeS (stC o X (some n) 16777216) nN = ⟨fl o X (some n), [⟨2, nN, ⟨#[]⟩, []⟩], 16777216, -1, false⟩ := by
        unfold removeS
        rw [good_nN]
        cases o <;> cases X <;> rfl
      rw [e]
      refine ⟨⟨rfl, rfl, rfl, ?_⟩, ?_⟩
      · show doW (fl o X (some n)) ⟨2, nN, ⟨#[]⟩, []⟩ = _
        rw [fl_rem, fl_none]
      · unfold removeR
        rw [good_nN]
        cases o <;> cases X <;> rfl
  obtain ⟨hp, hg⟩ := hp
  obtain ⟨_, _, h3, h4, _⟩ := hp.read
  have hl : logGood nA = true := by decide +kernel
  have hle := spl_le (X.getD [])
  have hx := h.1
  obtain ⟨g1, _⟩ := hp.lay (splB (X.getD [])) (by omega)
  constructor
  · unfold opR
    rw [hl, hg, h4, h3, g1, if_neg (by decide), if_neg (by decide), if_neg (by decide)]
    exact ite_self _
  · unfold opL
    rw [h3]
/-! ## The capacity stays -/
theorem room_done (st : DSt) (w : Wr) : (doneS st w).room = st.room := by
  unfold doneS
  split
  · exact (burnS_loose st).2.2
  · exact (burnS_loose st).2.2
theorem room_app (st : DSt) (s : ByteArray) (b : By) : (appendS st s b).room = st.room := by
  unfold appendS
  repeat' split
  all_goals first | rfl | exact room_done _ _
theorem room_ren (st : DSt) (s u : ByteArray) : (renameS st s u).room = st.room := by
  unfold renameS
  repeat' split
  all_goals first | rfl | exact room_done _ _
theorem room_rem (st : DSt) (s : ByteArray) : (removeS st s).room = st.room := by
  unfold removeS
  repeat' split
  all_goals first | rfl | exact room_done _ _
theorem room_sync (st : DSt) : (syncS st).room = st.room := by
  unfold syncS
  split
  · exact (burnS_loose st).2.2
  · exact (burnS_loose st).2.2
theorem room_lay (st : DSt) (s : ByteArray) (rs : List By) : (layS st s rs).room = st.room := by
  unfold layS
  repeat' split
  all_goals simp only [room_app, room_ren, room_sync]
theorem room_lapp (l : LSt) (st : DSt) (b : By) : (lappS l st b).room = st.room := by
  unfold lappS
  repeat' split
  all_goals simp only [room_app, room_sync]
theorem room_lcom (l : LSt) (st : DSt) (rs : List By) : (lcomS l st rs).room = st.room := by
  unfold lcomS
  split
  · rfl
  · exact room_lay _ _ _
theorem room_op (st : DSt) (s : ByteArray) : (opS st s).room = st.room := by
  unfold opS
  repeat' split
  all_goals simp only [room_rem, room_lay]
/-! ## The law's frame with two rows of records -/
/-- Disk and log, and the rows v14 and v15, which lie in blocks D and are never written again (their records may be the caller's). -/
structure LT (W w : World) (A B D : Nat → Prop) (q p : Nat) (l : LSt) (st : DSt) (v14 : Value) (now : List By) (v15 : Value) (thn : List By) : Prop where
  law : Law W w A B q p l st
  d : ∀ k, D k → W.heap.size ≤ k ∧ k < w.heap.size
  da : Off D A
  db : Off D B
  n14 : NB w (fun k => D k ∨ k < W.heap.size) v14 now
  n15 : NB w (fun k => D k ∨ k < W.heap.size) v15 thn
section
variable {W w w' : World} {A B D A' B' : Nat → Prop} {q p : Nat} {l l' : LSt} {st st' : DSt} {v14 v15 v' : Value} {now thn rs : List By}
theorem LT.start (h : Law W w A B q p l st) : LT W w A B (fun _ => False) q p l st (.slice none 0 0) [] (.slice none 0 0) [] := ⟨h, fun _ hk => hk.elim, fun _ hk => hk.elim, fun _ hk => hk.elim, Kd.N_nil _ _ _ _ _, Kd.N_nil _ _ _ _ _⟩
theorem LT.base (h : LT W w A B D q p l st v14 now v15 thn) : ∀ k, (A k ∨ B k) → W.heap.size ≤ k := fun k hk => hk.elim (fun g => (h.law.1.2.1 k g).1) (fun g => (h.law.2.2.2 k g).1)
theorem LT.low (h : LT W w A B D q p l st v14 now v15 thn) : Below W.heap.size W w := h.law.1.2.2
theorem LT.far (h : LT W w A B D q p l st v14 now v15 thn) : ∀ k, (D k ∨ k < W.heap.size) → ¬ (A k ∨ B k) := fun k hk hn => hk.elim (fun hd => hn.elim (h.da k hd) (h.db k hd)) (fun hl => by have := h.base k hn; omega)
theorem LT.log (h : LT W w A B D q p l st v14 now v15 thn) (k : Both w A B q p w' A' B' l' st') : LT W w' A' B' D q p l' st' v14 now v15 thn :=
  ⟨k.law h.law, fun x hx => ⟨(h.d x hx).1, Nat.lt_of_lt_of_le (h.d x hx).2 k.chg.size⟩, Off.symm (k.2.2.1.off h.da.symm (fun x hx => (h.d x hx).2)), Off.symm (k.2.2.2.1.off h.db.symm (fun x hx => (h.d x hx).2)), NB_chg h.n14 k.chg h.far, NB_chg h.n15 k.chg h.far⟩
theorem LT.below (h : LT W w A B D q p l st v14 now v15 thn) (hb : Below w.heap.size w w') : LT W w' A B D q p l st v14 now v15 thn :=
  ⟨h.law.below hb, fun x hx => ⟨(h.d x hx).1, Nat.lt_of_lt_of_le (h.d x hx).2 hb.size⟩, h.da, h.db, Kd.N_below h.n14 hb, Kd.N_below h.n15 hb⟩
/-- Another row for v15, made since w. -/
theorem LT.put (h : LT W w A B D q p l st v14 now v15 thn) (hb : Below w.heap.size w w') (hn : NB w' (fun k => (D k ∨ k < W.heap.size) ∨ w.heap.size ≤ k) v' rs) : LT W w' A B (fun k => (D k ∨ w.heap.size ≤ k) ∧ k < w'.heap.size) q p l st v14 now v' rs := by
  have h1 := h.below hb
  have hws := h.low.size
  refine ⟨h1.law, fun k hk => ⟨hk.1.elim (fun g => (h.d k g).1) (Nat.le_trans hws), hk.2⟩, fun k hk ha => hk.1.elim (fun g => h.da k g ha) (fun g => by have := (h.law.1.2.1 k ha).2; omega), fun k hk ha => hk.1.elim (fun g => h.db k g ha) (fun g => by have := (h.law.2.2.2 k ha).2; omega), Kd.N_mono (Kd.N_bound h1.n14) (fun k hk => hk.1.elim (fun g => .inl ⟨.inl g, hk.2⟩) .inr), Kd.N_mono (Kd.N_bound hn) (fun k hk => hk.1.elim (fun g => g.elim (fun g => .inl ⟨.inl g, hk.2⟩) .inr) (fun g => .inl ⟨.inr g, hk.2⟩))⟩
theorem LT.shift (h : LT W w A B D q p l st v14 now v15 thn) : LT W w A B D q p l st v15 thn v15 thn := ⟨h.law, h.d, h.da, h.db, h.n15, h.n15⟩
theorem LT.disk (h : LT W w A B D q p l st v14 now v15 thn) (k : Sp w A p w' A' st') : ∃ B', LT W w' A' B' D q p l st' v14 now v15 thn := ⟨_, h.log (k.both h.law.2.1 h.law.2.2.1)⟩
theorem LT.fuse (h : LT W w A B D q p l st v14 now v15 thn) (n : Int) :
    Calls Try.prog 23 #[.pointer (some ⟨p, 0, none⟩), .int .i64 n] w fun e w' => e = .returned (.tuple #[]) ∧ ∃ A' B', LT W w' A' B' D q p l (fuseS st n) v14 now v15 thn :=
  (h.law.1.1.fus n).mono fun e w' ⟨h1, h2, h3⟩ => by
    obtain ⟨A', k⟩ := (Sp.of h.law.1.1).next (h2.mono fun k hk => by
      by_cases hlt : k < w.heap.size
      · exact .inl ⟨hk, hlt⟩
      · exact .inr (Nat.le_of_not_lt hlt)) (h3.mono fun k hk => by
        by_cases hlt : k < w.heap.size
        · exact .inl ⟨hk, hlt⟩
        · exact .inr (Nat.le_of_not_lt hlt))
    obtain ⟨B', g⟩ := h.disk k
    exact ⟨h1, A', B', g⟩
theorem LT.crash (h : LT W w A B D q p l st v14 now v15 thn) (hok : st.Ok) (keep torn : Int) :
    Calls Try.prog 22 #[.pointer (some ⟨p, 0, none⟩), .int .i64 keep, .int .i64 torn] w fun e w' => e = .returned (.tuple #[]) ∧ ∃ A' B', LT W w' A' B' D q p l (crashS st keep torn) v14 now v15 thn :=
  (h.law.1.1.crash hok keep torn).mono fun e w' ⟨h1, h2, h3⟩ => by
    obtain ⟨A', k⟩ := (Sp.of h.law.1.1).next (h2.mono fun k hk => hk.elim (fun g => by
      by_cases hlt : k < w.heap.size
      · exact .inl ⟨g, hlt⟩
      · exact .inr (Nat.le_of_not_lt hlt)) .inr) (h3.mono fun k hk => by
        by_cases hlt : k < w.heap.size
        · exact .inl ⟨hk, hlt⟩
        · exact .inr (Nat.le_of_not_lt hlt))
    obtain ⟨B', g⟩ := h.disk k
    exact ⟨h1, A', B', g⟩
/-- Open, whatever it answers. -/
theorem LT.opn (h : LT W w A B D q p l st v14 now v15 thn) {X : Option By} (hg : G1 X st) (hX : (X.getD []).length ≤ 100000) {n m : Nat} (hf : st.Fit (n + 100000) (m + 5)) :
    Calls Try.prog 12 #[.pointer (some ⟨p, 0, none⟩), .string nA] w fun e w' => (∃ v, e = .returned v) ∧ ∃ A' B', LT W w' A' B' D q p l (opS st nA) v14 now v15 thn := by
  obtain ⟨h1, h2, h3⟩ := rem_le hg hX
  refine (open_calls w A p st nA h.law.1.1 hf.ok (fun _ => hf.less (by omega) (by omega)) ⟨by omega, by omega⟩ nA_size).mono ?_
  rintro e w' ⟨A', hS, hE⟩
  obtain ⟨B', g⟩ := h.disk hS
  refine ⟨?_, A', B', g⟩
  rcases hE with ⟨_, rfl⟩ | ⟨_, q', B2, rfl, _⟩
  · exact ⟨_, rfl⟩
  · exact ⟨_, rfl⟩
/-- The last Open: it gives a log. -/
theorem LT.last {o : Bool} {X N : Option By} (h : LT W w A B D q p l (stC o X N 16777216) v14 now v15 thn) (hp : Pn now thn X) {n m : Nat} (hf : (stC o X N 16777216).Fit (n + 100000) (m + 5)) :
    Calls Try.prog 12 #[.pointer (some ⟨p, 0, none⟩), .string nA] w fun e w' => ∃ q', e = .returned (.tuple #[.pointer (some ⟨q', 0, none⟩), .int .i64 0]) ∧ ∃ A' B' B2 st', LT W w' A' B' D q p l st' v14 now v15 thn ∧ Lg w' B2 q' p ⟨nA, splB (X.getD []), false⟩ := by
  have hg : G1 X (stC o X N 16777216) := ⟨⟨o, N, rfl⟩, fun w hw => by cases hw⟩
  obtain ⟨h1, h2, h3⟩ := rem_le hg hp.1
  obtain ⟨k1, k2⟩ := last_open (o := o) (N := N) hp
  refine (open_calls w A p _ nA h.law.1.1 hf.ok (fun _ => hf.less (by omega) (by omega)) ⟨by omega, by omega⟩ nA_size).mono ?_
  rintro e w' ⟨A', hS, ⟨h0, _⟩ | ⟨_, q', B2, rfl, hL, _⟩⟩
  · exact absurd k1 h0
  · obtain ⟨B', g⟩ := h.disk hS
    rw [k2] at hL
    exact ⟨q', rfl, A', B', B2, _, g, hL⟩
end
/-! ## Rows of rows -/
theorem N_nil0 {w : World} {ok : Nat → Prop} (hok : ok w.heap.size) : NB (w.alloc (.cells #[] 22)) ok (.slice (some ⟨w.heap.size, 0, none⟩) 0 0) [] := by
  refine ⟨fun k hk => ?_, [], rfl, ⟨fun k hk => hk.symm, [], ?_, Reps.none _ _⟩, fun j x c hx _ => by cases hx⟩
  · have : w.heap.size = k := by simpa [Value.ownBlock] using hk
    subst this
    exact hok
  · have h2 := World.ownsRow_lit (base := 0) (e := 22) (size := 1) w #[] 0 (Nat.zero_le _) (by decide) rfl
    exact h2
/-- A row of one record, in block g. -/
theorem F_one {w : World} {g e : Nat} {A1 : Option Addr} {c1 : Nat} {b : By} (hb : w.heap[g]? = some (.cells #[.slice A1 b.length c1] e (0, 0))) (hc : b.length ≤ c1) (ok : Nat → Prop) (hok : ok g) (hf : Kd.F (Kd.int .u8) w ok A1 b.length (numsL b)) :
    Kd.F (Kd.slice 5 (Kd.int .u8)) w ok (some ⟨g, 0, none⟩) 1 [numsL b] := by
  intro w' hm
  refine ⟨rfl, by decide, fun _ => ⟨⟨g, 0, none⟩, rfl, fun j x hj => ?_⟩⟩
  rcases j with _ | j
  · simp only [List.getElem?_cons_zero, Option.some.injEq] at hj
    subst hj
    refine ⟨[.slice A1 b.length c1], rfl, ⟨A1, c1, by rw [nums_len], by rw [nums_len]; exact hc, by rw [nums_len]; exact hf w' hm⟩, fun i u hu => ?_⟩
    have hg : w'.heap[g]? = some (.cells #[.slice A1 b.length c1] e (0, 0)) := (hm g hok (blk_lt hb)).trans hb
    rcases i with _ | i
    · simp only [List.getElem?_cons_zero, Option.some.injEq] at hu
      subst hu
      have := blk_cell hg 0
      exact this.trans rfl
    · simp at hu
  · simp at hj
/-- What was there is there. -/
theorem cellLow {w w' : World} {a : Addr} {v : Value} (h : w.cell? a = some v) (hb : Below w.heap.size w w') : w'.cell? a = some v := (hb.cell (cell_lt' h)).trans h
theorem CB_footB {W w : World} {A : Option Addr} {b : By} (h : CB W A b) (hb : Below W.heap.size W w) : Kd.F (Kd.int .u8) w (fun k => k < W.heap.size) A b.length (numsL b) :=
  fun W' hW => CB_foot h W' (fun k hk hlt => (hW k hk (Nat.lt_of_lt_of_le hlt hb.size)).trans (hb.block k hlt))
end Go.Proofs.Ytipclnniaenciaa.Hand
