/- LogTorn, walked by hand: the disk's files as plain data first. -/
import Derived.Test.YtipclnniaenciaaLogFrames
namespace Go.Proofs.Ytipclnniaenciaa.Hand
open Go.RowKit Go.Maps Go.Proofs.YtipclnniaenciaaW.PrintWords Go.Proofs.YtipclnniaenciaaW.PrintLast Go.Proofs.YtipclnniaenciaaW.PrintMore
set_option linter.unusedVariables false
set_option linter.unusedSimpArgs false
/-- Power, no fuse, and one file at most, as it is seen now. -/
structure Pw (st : DSt) (x : Option By) (c : Int) : Prop where
  down : st.down = false
  fuse : st.fuse = -1
  room : st.room = c
  now : st.now = fA x
  fit : st.Fit 100000000 1000
theorem good_nA : goodName nA = true := by decide +kernel
theorem good_nN : goodName nN = true := by decide +kernel
section
variable {st : DSt} {x : Option By} {c : Int}
theorem Pw.rest (h : ((x.getD []).length : Int) ≤ 1000000000) : Pw (stF x c) x c := ⟨rfl, rfl, rfl, rfl, stF_fit x c _ _ (by unfold maxB; omega) (by decide)⟩
theorem Pw.done (h : Pw st x c) (w : Wr) : doneS st w = ⟨st.sure, st.loose ++ [w], c, -1, false⟩ ∧ doneR st = 0 := by
  obtain ⟨su, lo, ro, fu, dn⟩ := st
  obtain ⟨h1, h2, h3, h4, _⟩ := h
  cases h1; cases h2; cases h3
  exact ⟨rfl, rfl⟩
theorem now_snoc (su : Fs) (lo : List Wr) (w : Wr) (c f : Int) (d : Bool) : (DSt.mk su (lo ++ [w]) c f d).now = doW (DSt.mk su lo c f d).now w := by
  unfold DSt.now
  rw [List.foldl_append]
  rfl
theorem Pw.now' (h : Pw st x c) (w : Wr) : (DSt.mk st.sure (st.loose ++ [w]) c (-1) false).now = doW (fA x) w := by
  rw [now_snoc, ← h.now]
  rfl
theorem sync_free (su : Fs) (lo : List Wr) (c : Int) : syncS ⟨su, lo, c, -1, false⟩ = ⟨(DSt.mk su lo c (-1) false).now, [], c, -1, false⟩ ∧ doneR ⟨su, lo, c, -1, false⟩ = 0 := ⟨rfl, rfl⟩
theorem Pw.full (h : Pw st x c) (s : ByteArray) (n : Nat) (hn : ((x.getD []).length : Int) + n ≤ c) : fullB st s n = false := by
  unfold fullB
  rw [h.now, used_fA, h.room, Bool.or_eq_false_iff]
  refine ⟨?_, decide_eq_false (by omega)⟩
  rw [Bool.and_eq_false_iff]
  right
  cases x <;> rfl
theorem Pw.app (h : Pw st x c) (b : By) (hn : ((x.getD []).length : Int) + b.length ≤ c) : appendR st nA b.length = 0 ∧ syncS (appendS st nA b) = stF (some (x.getD [] ++ b)) c ∧ doneR (appendS st nA b) = 0 := by
  have ha : appendS st nA b = ⟨st.sure, st.loose ++ [⟨0, nA, ⟨#[]⟩, b⟩], c, -1, false⟩ := by
    unfold appendS
    rw [h.full nA _ hn, good_nA, h.down, (h.done _).1]
    rfl
  refine ⟨by unfold appendR; rw [h.full nA _ hn, good_nA, h.down, (h.done ⟨0, nA, ⟨#[]⟩, b⟩).2]; rfl, ?_, by rw [ha]; rfl⟩
  rw [ha, (sync_free _ _ _).1, h.now']
  cases x <;> rfl
theorem Pw.lay (h : Pw st x c) (rs : List By) (hn : ((x.getD []).length : Int) + (frs rs).length ≤ c) : layR st nA rs = 0 ∧ layS st nA rs = stF (some (frs rs)) c := by
  obtain ⟨b, hb⟩ : ∃ b, b = frs rs := ⟨_, rfl⟩
  rw [← hb] at hn
  have ha : appendS st nN b = ⟨st.sure, st.loose ++ [⟨0, nN, ⟨#[]⟩, b⟩], c, -1, false⟩ := by
    unfold appendS
    rw [h.full nN _ hn, good_nN, h.down, (h.done _).1]
    rfl
  have hr : appendR st nN b.length = 0 := by unfold appendR; rw [h.full nN _ hn, good_nN, h.down, (h.done ⟨0, nN, ⟨#[]⟩, b⟩).2]; rfl
  have hs : syncS (appendS st nN b) = ⟨(nN, b) :: fA x, [], c, -1, false⟩ := by
    rw [ha, (sync_free _ _ _).1, h.now']
    cases x <;> rfl
  have hn : renameR (⟨(nN, b) :: fA x, [], c, -1, false⟩ : DSt) nN nA = 0 := by
    unfold renameR
    rw [good_nA, good_nN]
    cases x <;> rfl
  have hm : renameS (⟨(nN, b) :: fA x, [], c, -1, false⟩ : DSt) nN nA = ⟨(nN, b) :: fA x, [⟨1, nN, nA, []⟩], c, -1, false⟩ := by
    unfold renameS
    rw [good_nA, good_nN]
    cases x <;> rfl
  unfold layR layS
  rw [nN_new, ← hb, hr, hs, hn, hm, ha]
  constructor
  · rfl
  · cases x <;> rfl
theorem Pw.read (h : Pw st x c) : removeS st (newN nA) = st ∧ removeR st (newN nA) = 3 ∧ readB st nA = x.getD [] ∧ goesB (readR st nA) = true ∧ readR st nN = 3 := by
  rw [nN_new]
  refine ⟨?_, ?_, ?_, ?_, ?_⟩
  · unfold removeS; rw [good_nN, h.down, h.now]; cases x <;> rfl
  · unfold removeR; rw [good_nN, h.down, h.now]; cases x <;> rfl
  · unfold readB; rw [good_nA, h.down, h.now]; cases x <;> rfl
  · unfold readR; rw [good_nA, h.down, h.now]; cases x <;> rfl
  · unfold readR; rw [good_nN, h.down, h.now]; cases x <;> rfl
theorem Pw.lapp (h : Pw st x c) (xs : List By) (b : By) (hb : b.length ≤ 262144) (hn : ((x.getD []).length : Int) + b.length + 8 ≤ c) :
    lappR ⟨nA, xs, false⟩ st b = 0 ∧ lappS ⟨nA, xs, false⟩ st b = stF (some (x.getD [] ++ frB b)) c ∧ lappL ⟨nA, xs, false⟩ st b = ⟨nA, xs ++ [b], false⟩ := by
  have hm : mayR ⟨nA, xs, false⟩ [b] = 0 := by unfold mayR; rw [big_one hb]; rfl
  obtain ⟨h1, h2, h3⟩ := h.app (frB b) (by rw [frB_len]; omega)
  unfold lappR lappS lappL
  rw [hm]
  show (if (0 : Int) ≠ 0 then _ else if appendR st nA (frB b).length ≠ 0 then _ else doneR (appendS st nA (frB b))) = 0 ∧ (if (0 : Int) ≠ 0 then _ else if appendR st nA (frB b).length ≠ 0 then _ else syncS (appendS st nA (frB b))) = _ ∧ (if (0 : Int) ≠ 0 then _ else if appendR st nA (frB b).length ≠ 0 then _ else if doneR (appendS st nA (frB b)) ≠ 0 then _ else _) = _
  rw [h1, h2, h3]
  exact ⟨rfl, rfl, rfl⟩
end
/-- The disk of the law behind its Sync. -/
def leftB : By := [108, 101, 102, 116]
def stT (other : Bool) (b : By) : DSt := ⟨if other = true then [(nN, leftB), (nA, b)] else [(nA, b)], [], 16777216, -1, false⟩
def st1 (b : By) : DSt := appendS (newS 16777216) nA b
theorem st1_eq (b : By) (hb : b.length ≤ 3000) : st1 b = ⟨[], [⟨0, nA, ⟨#[]⟩, b⟩], 16777216, -1, false⟩ := by
  have h : Pw (stF none 16777216) none 16777216 := Pw.rest (by decide)
  show appendS (stF none 16777216) nA b = _
  unfold appendS
  rw [h.full nA _ (by show ((0 : Nat) : Int) + _ ≤ _; omega), good_nA, h.down, (h.done _).1]
  rfl
theorem st1_sync (b : By) (hb : b.length ≤ 3000) : syncS (st1 b) = stT false b := by
  rw [st1_eq b hb]
  rfl
theorem st1_left (b : By) (hb : b.length ≤ 3000) : syncS (appendS (st1 b) nN leftB) = stT true b := by
  have hf : fullB (⟨[], [⟨0, nA, ⟨#[]⟩, b⟩], 16777216, -1, false⟩ : DSt) nN leftB.length = false := by
    unfold fullB
    rw [Bool.or_eq_false_iff]
    refine ⟨rfl, decide_eq_false ?_⟩
    show ¬ (16777216 : Int) < ((b.length + 0 : Nat) : Int) + ((4 : Nat) : Int)
    omega
  have ha : appendS (st1 b) nN leftB = ⟨[], [⟨0, nA, ⟨#[]⟩, b⟩, ⟨0, nN, ⟨#[]⟩, leftB⟩], 16777216, -1, false⟩ := by
    rw [st1_eq b hb]
    unfold appendS
    rw [hf, good_nN]
    rfl
  rw [ha]
  rfl
theorem st1_fit (b : By) (hb : b.length ≤ 3000) : (st1 b).Fit 100001000 1004 := DSt.Fit.append (newS_fit 16777216 (by decide) _ _ (by unfold maxB; omega) (by decide))
theorem stL_fit (b : By) (hb : b.length ≤ 3000) : (appendS (st1 b) nN leftB).Fit 100000004 1003 := DSt.Fit.append (DSt.Fit.less (st1_fit b hb) (by show 100000004 + 4 ≤ _; decide) (by decide))
theorem stT_fit (o : Bool) (b : By) (hb : b.length ≤ 3000) : (stT o b).Fit 100000004 1003 := by
  cases o with
  | false => rw [← st1_sync b hb]; exact (DSt.Fit.sync (st1_fit b hb)).less (by decide) (by decide)
  | true => rw [← st1_left b hb]; exact DSt.Fit.sync (stL_fit b hb)
/-- What Open finds behind the name that it strikes. -/
theorem stT_rem (o : Bool) (b : By) (hb : b.length ≤ 3000) : Pw (removeS (stT o b) (newN nA)) (some b) 16777216 ∧ goesB (removeR (stT o b) (newN nA)) = true := by
  have hf := DSt.Fit.remove (s := newN nA) (n := 100000000) (m := 1000) ((stT_fit o b hb).less (by decide) (by decide))
  rw [nN_new] at hf ⊢
  have e : removeS (stT o b) nN = ⟨(stT o b).sure, if o = true then [⟨2, nN, ⟨#[]⟩, []⟩] else [], 16777216, -1, false⟩ := by
    unfold removeS
    rw [good_nN]
    cases o <;> rfl
  refine ⟨?_, ?_⟩
  · rw [e] at hf ⊢
    refine ⟨rfl, rfl, rfl, ?_, hf⟩
    cases o <;> rfl
  · unfold removeR
    rw [good_nN]
    cases o <;> rfl
theorem stT_open (o : Bool) (b : By) (hb : b.length ≤ 3000) : opR (stT o b) nA = 0 ∧ Pw (opS (stT o b) nA) (some (frs (splB b))) 16777216 ∧ opL (stT o b) nA = ⟨nA, splB b, false⟩ ∧ readB (removeS (stT o b) (newN nA)) nA = b := by
  obtain ⟨hp, hg⟩ := stT_rem o b hb
  obtain ⟨_, _, h3, h4, _⟩ := hp.read
  have h3' : readB (removeS (stT o b) (newN nA)) nA = b := h3
  have hl : logGood nA = true := by decide +kernel
  have hle := spl_le b
  obtain ⟨g1, g2⟩ := hp.lay (splB b) (by show (b.length : Int) + _ ≤ _; omega)
  refine ⟨?_, ?_, ?_, h3'⟩
  · unfold opR
    rw [hl, hg, h4, h3', g1, if_neg (by decide), if_neg (by decide), if_neg (by decide)]
    exact ite_self _
  · unfold opS
    rw [hl, hg, h4, h3', g2]
    by_cases hlt : (frs (splB b)).length < b.length
    · rw [if_pos hlt]
      exact Pw.rest (by show ((frs (splB b)).length : Int) ≤ _; omega)
    · obtain ⟨⟨r, hr⟩, _⟩ := splB_front b
      have hr0 : r = [] := by
        have hlen := congrArg List.length hr
        rw [List.length_append] at hlen
        exact List.eq_nil_of_length_eq_zero (by omega)
      rw [hr0, List.append_nil] at hr
      rw [if_neg hlt, ← hr]
      exact hp
  · unfold opL
    rw [h3']
section
variable {W w w' : World} {A B C D A' B' : Nat → Prop} {q p : Nat} {l l' : LSt} {st st' : DSt} {v8 v9 v' : Value} {x8 x' : By} {rs rs' xs : List By} {x : Option By} {cap : Int}
/-- Records that a call has made since w. -/
theorem LR.take9 (h : LR W w A B C D q p l st v8 x8 v9 rs) (hb : Below w.heap.size w w') (hn : NB w' (fun k => w.heap.size ≤ k) v' rs') : LR W w' A B C (fun k => w.heap.size ≤ k ∧ k < w'.heap.size) q p l st v8 x8 v' rs' := by
  have h1 := h.below hb
  have hnb := Kd.N_bound hn
  have hws := h.law.1.2.2.size
  refine ⟨h1.law, ⟨h1.sets.c, fun k hk => ⟨Nat.le_trans hws hk.1, hk.2⟩, h1.sets.ca, h1.sets.cb, fun k hk ha => by have := (h.law.1.2.1 k ha).2; omega, fun k hk ha => by have := (h.law.2.2.2 k ha).2; omega, fun k hc hk => by have := (h.sets.c k hc).2; omega⟩, h1.r8, Kd.N_mono hnb (fun k hk => .inl hk), fun k hk => hnb.1 k hk⟩
theorem DLaw.app (h : DLaw W w A p st) (hok : st.Ok) (s : ByteArray) (hs : s.size ≤ maxLen) (Ab : Option Addr) (c : Nat) (b : By) (hC : CB w Ab b) (hb : b.length ≤ maxB) :
    Calls Try.prog 10 #[.pointer (some ⟨p, 0, none⟩), .string s, .slice Ab b.length c] w fun e w' => e = .returned (.int .i64 (appendR st s b.length)) ∧ ∃ A', DLaw W w' A' p (appendS st s b) := by
  refine ((Sp.of h.1).app hok s hs Ab c b hC hb).mono ?_
  rintro e w' ⟨h1, A', h2⟩
  exact ⟨h1, A', Sp.law h h2⟩
theorem DLaw.syn (h : DLaw W w A p st) (hok : st.Ok) :
    Calls Try.prog 11 #[.pointer (some ⟨p, 0, none⟩)] w fun e w' => e = .returned (.int .i64 (doneR st)) ∧ ∃ A', DLaw W w' A' p (syncS st) := by
  refine ((Sp.of h.1).syn hok).mono ?_
  rintro e w' ⟨h1, A', h2⟩
  exact ⟨h1, A', Sp.law h h2⟩
end
/-! ## The walk -/
theorem spl_few (b : By) : (splB b).length ≤ b.length := Nat.le_trans (frs_ge (splB b)) (spl_le b)
theorem frs_mem {y : By} : ∀ {rs : List By}, y ∈ rs → y.length ≤ (frs rs).length
  | r :: rs, h => by
    show y.length ≤ (frB r ++ frs rs).length
    rw [List.length_append, frB_len]
    rcases List.mem_cons.1 h with h | h
    · rw [h]; omega
    · have := frs_mem h; omega
section
variable {W w w' : World} {A B C D A' B' : Nat → Prop} {q p : Nat} {l l' : LSt} {st st' : DSt} {v8 v9 v' : Value} {x8 x' : By} {rs rs' xs : List By} {x : Option By} {cap : Int}
/-- Open, once more; the step as it is told. -/
theorem LR.opnwB (h : LR W w A B C D q p l (stF x cap) v8 x8 v9 rs) (hb : ∀ b ∈ xs, b.length ≤ 262144) (hx : x.getD [] = frs xs) (hl : (frs xs).length ≤ 100000000) :
    Calls Try.prog 12 #[.pointer (some ⟨p, 0, none⟩), .string nA] w fun e w' => ∃ q' A' B' B2, e = .returned (.tuple #[.pointer (some ⟨q', 0, none⟩), .int .i64 0]) ∧ Both w A B q p w' A' B' l (stF x cap) ∧ Lg w' B2 q' p ⟨nA, xs, false⟩ := by
  obtain ⟨h1, h2, h3⟩ := open_whole x cap xs hb hx
  obtain ⟨g1, _, g3, _⟩ := rest_read x cap
  have hlen := frs_ge xs
  refine (open_calls w A p (stF x cap) nA h.law.1.1 (stF_fit x cap 0 0 (by rw [hx]; unfold maxB; omega) (by decide)).ok (fun _ => by rw [g1, g3, hx]; exact stF_fit x cap _ _ (by rw [hx]; unfold maxB; omega) (by decide)) (by rw [g1, g3, hx, splB_whole xs hb]; exact ⟨by omega, by omega⟩) nA_size).mono ?_
  rintro e w' ⟨A', hS, ⟨h0, _⟩ | ⟨_, q', B2, rfl, hL, hB, hO⟩⟩
  · exact absurd h1 h0
  · rw [h2] at hS
    rw [h3] at hL
    exact ⟨q', A', _, B2, rfl, hS.both h.law.2.1 h.law.2.2.1, hL⟩
theorem F_block {g e : Nat} {fr : Nat × Nat} {b : By} {cs : Array Value} (hb : w.heap[g]? = some (.cells cs e fr)) (hcs : cs = ((numsL b).map (Value.int .u8)).toArray) (hn : (numsL b).length ≤ 9223372036854775807) : Kd.FK (Kd.slice 5 (Kd.int .u8)) w (fun k => k = g) (numsL b) [.slice (some ⟨g, 0, none⟩) b.length b.length] := by
  refine fun W' hW => ⟨some ⟨g, 0, none⟩, b.length, by rw [nums_len], by rw [nums_len]; exact Nat.le_refl _, ?_⟩
  exact C_block ((hW g rfl (blk_lt hb)).trans hb) hcs hn
end
set_option maxRecDepth 100000 in
set_option maxHeartbeats 16000000 in
theorem LogTorn_calls (W : World) (Ab : Option Addr) (c : Nat) (b : By) (o : Bool) (hC : CB W Ab b) (hc : b.length ≤ c) (hl : b.length ≤ 1000000000000000) :
    Calls Try.prog 3 #[.slice Ab b.length c, .bool o] W fun e w' => e = .returned (.bool true) ∧ Below W.heap.size W w' := by
  have HC := Aside0.mk hC
  have HCC := Aside0.mk hc
  clear hC hc
  by_cases h1 : (3000 : Int) < b.length
  · go_enter Try.func3, Try.ntmps3
    go_wp2_with fail
    refine (answers_calls _).mono ?_
    rintro e w4 ⟨rfl, hb4⟩
    have HB4 := Aside0.mk hb4
    clear hb4
    go_wp2
    go_ret
    exact ⟨rfl, HB4.out⟩
  · have HB := Aside0.mk (show b.length ≤ 3000 by omega)
    have HNW := Aside0.mk (fun W => New_law W 16777216)
    have HAP := Aside0.mk (fun (w : World) (A : Nat → Prop) (p : Nat) (h : DLaw W w A p (newS 16777216)) => h.app (newS_ok 16777216) nA nA_size Ab c b (Kd.C_below HC.out h.2.2) (by have := HB.out; unfold maxB; omega))
    cases o with
    | false =>
      go_enter Try.func3, Try.ntmps3
      go_wp2_with fail
      refine (HNW.out _).mono ?_
      rintro e w1 ⟨p, A1, rfl, hD1⟩
      have HT := Aside0.mk (HAP.out _ _ _ hD1)
      clear hD1 HNW HAP
      go_wp2_with fail
      refine HT.out.mono ?_
      rintro e w2 ⟨rfl, A2, hD2⟩
      have HD2 := Aside0.mk hD2
      clear hD2 HT
      have HT := Aside0.mk (HD2.out.syn (st1_fit b HB.out).ok)
      rw [show syncS (appendS (newS 16777216) nA b) = stT false b from st1_sync b HB.out] at HT
      go_wp2_with fail
      refine HT.out.mono ?_
      rintro e w4 ⟨rfl, A4, hD4⟩
      have HOP := Aside0.mk (stT_open false b HB.out)
      have HT := Aside0.mk (hD4.opn (stT_fit false b HB.out).ok nA (fun _ => by rw [HOP.out.2.2.2]; have := HB.out; exact (stT_fit false b HB.out).less (by omega) (by decide)) (by rw [HOP.out.2.2.2]; have := HB.out; have := spl_few b; exact ⟨by omega, by omega⟩) nA_size HOP.out.1)
      rw [HOP.out.2.2.1] at HT
      have HPW := Aside0.mk HOP.out.2.1
      obtain ⟨sU, hsU⟩ : ∃ s, s = opS (stT false b) nA := ⟨_, rfl⟩
      rw [← hsU] at HT HPW
      have HF := Aside0.mk (show (frs (splB b)).length ≤ 3000 ∧ (splB b).length ≤ 3000 ∧ ∀ y ∈ splB b, y.length ≤ 3000 from ⟨Nat.le_trans (spl_le b) HB.out, Nat.le_trans (spl_few b) HB.out, fun y hy => Nat.le_trans (frs_mem hy) (Nat.le_trans (spl_le b) HB.out)⟩)
      clear hsU hD4 HOP
      go_wp2_with fail
      refine HT.out.mono ?_
      rintro e w5 ⟨q, A5, B5, rfl, hL5, _, _, _⟩
      have HL5 := Aside0.mk (LR.start hL5)
      have HT := Aside0.mk (frames_calls w5 Ab c b (Kd.C_below HC.out hL5.1.2.2) HCC.out (by have := HB.out; omega))
      clear hL5
      go_wp2_with fail
      refine HT.out.mono ?_
      rintro e w6 ⟨v8, t8, rfl, hn6, hb6⟩
      have hR6 := HL5.out.take9 hb6 hn6
      obtain ⟨D, hD⟩ : ∃ D : Nat → Prop, D = (fun k => w5.heap.size ≤ k ∧ k < w6.heap.size) := ⟨_, rfl⟩
      rw [← hD] at hR6
      obtain ⟨A8, c8, e8, hl8, hC8⟩ := NB_slice hR6.r9
      obtain ⟨n8, hn8⟩ : ∃ n, n = (splB b).length := ⟨_, rfl⟩
      rw [← hn8] at e8 hl8
      subst e8
      have HN8 := Aside0.mk hn8
      have HR6 := Aside0.mk hR6
      have HT := Aside0.mk (hR6.recs' (by have := HF.out.2.1; omega) (fun y hy => by have := HF.out.2.2 y hy; omega))
      have hn8l : n8 ≤ 3000 := by rw [HN8.out]; exact HF.out.2.1
      clear hR6 hD hn6 hb6 hC8 hn8
      go_wp2_with fail
      refine HT.out.mono ?_
      rintro e w7 ⟨v7, rfl, hn7, hR7⟩
      obtain ⟨A7, c7, rfl, hl7, hC7⟩ := NB_slice hn7
      have HR7 := Aside0.mk hR7
      obtain ⟨A8', c8', e8, hl8', hC8⟩ := NB_slice hR7.r9
      rw [← HN8.out] at e8
      injection e8 with e8 e8' e8''
      subst e8 e8''
      have HS := Aside0.mk (sameAll_yes hC7 hC8 hl7 hl8' (by have := HF.out.2.1; omega) (fun y hy => by have := HF.out.2.2 y hy; omega) rfl)
      rw [← HN8.out] at HS hl7
      rw [← HN8.out]
      clear hn7 hR7 hC7 hC8 HT
      go_wp2_with fail
      refine HS.out.mono ?_
      rintro e w9 ⟨rfl, hb9⟩
      have HR9 := Aside0.mk (HR7.out.below hb9)
      clear HS hb9 hl7
      go_wp2
      go_loopw [10, 11] (fun v10 v11 wr => ∃ i : Nat, v11 = .int .i64 i ∧ i ≤ n8 ∧ Aside0 (∃ C, LR W wr A5 B5 C D q p ⟨nA, splB b, false⟩ sU v10 (frs ((splB b).take i)) (.slice A8 n8 c8) (splB b))) (fun _ v11 _ => n8 - (intOf v11).toNat)
      case atStart => exact ⟨0, rfl, Nat.zero_le _, ⟨_, HR9.out⟩⟩
      case round =>
        obtain ⟨i, rfl, hi, HI⟩ := hrel
        obtain ⟨C, hR⟩ := HI.out
        have HR := Aside0.mk hR
        obtain ⟨Ax, cx, ex, hlx, hCx⟩ := RB_slice hR.r8
        obtain ⟨nx, hnx⟩ : ∃ n, n = (frs ((splB b).take i)).length := ⟨_, rfl⟩
        rw [← hnx] at ex hlx
        subst ex
        have HNX := Aside0.mk hnx
        obtain ⟨A8', c8', e8, hl8', hC8⟩ := NB_slice hR.r9
        rw [← HN8.out] at e8
        injection e8 with e8 e8' e8''
        subst e8 e8''
        clear HI hR hCx hnx
        by_cases hlt : i < n8
        · have hlt' : i < (splB b).length := by rw [← HN8.out]; exact hlt
          obtain ⟨ad, A1, c1, rfl, hc0, hlc1, hC0⟩ := rec_at hC8 i hlt'
          obtain ⟨y, hy⟩ : ∃ y, y = (splB b)[i] := ⟨_, rfl⟩
          have HT := Aside0.mk (show (splB b).take (i + 1) = (splB b).take i ++ [y] from by rw [List.take_succ_eq_append_getElem hlt', hy])
          have hyl : y.length ≤ 3000 := by rw [hy]; exact HF.out.2.2 _ (List.getElem_mem hlt')
          rw [← hy] at hc0 hlc1 hC0
          have HRF := Aside0.mk (refFrame_calls wr A1 c1 y hC0 hlc1 (by omega))
          clear hy hC0 hC8
          go_wp2_with fail
          refine HRF.out.mono ?_
          rintro e w10 ⟨v5, rfl, hF5, hb5⟩
          obtain ⟨A5', c5, e5, hl5, hC5⟩ := RB_slice hF5
          obtain ⟨n5, hn5⟩ : ∃ n, n = (frB y).length := ⟨_, rfl⟩
          rw [← hn5] at e5 hl5
          subst e5
          have HC5 := Aside0.mk hC5
          have HR5 := Aside0.mk (HR.out.below hb5)
          have HNN := Aside0.mk hn5
          have HLX := Aside0.mk (show ((frs ((splB b).take i)).length + n5) * 1 ≤ 140737488355328 from by rw [HNN.out, frB_len]; have := HF.out.1; have := frs_take_le (splB b) i; omega)
          clear hF5 hb5 hC5 hc0 hn5 HRF
          go_wp2_with ((with_reducible refine gate_builtin (b := .append) (xs := #[.tmp 63, .tmp 68]) rfl ?_); at_builtin; refine Kd.R_append_rows (Kd.int .u8) (Rr := (Kd.int .u8).K w10) (w0 := w10) W.heap.size rfl (.tmp 63) (.tmp 68) 22 5 (.int .u8 0) 1 rfl Try.underlying22 infoU8 rfl (by decide) (by omega) (.slice Ax nx cx) (numsL (frs ((splB b).take i))) (numsL (frB y)) A5' n5 c5 (fun k => C k ∨ w10.heap.size ≤ k) (fun _ => False) rfl rfl ?aO ?aR ?aK (fun _ hk => hk.elim) ?aF ?aB ?aS ?aL ?_; (case aO => exact HR5.out.okC (Below.refl _ _)); (case aR => rw [HNN.out]; exact (nums_len (frB y) ▸ HC5.out)); (case aK => exact fun x cs hx => hx); (case aF => exact fun _ hk => .inr hk); (case aB => exact Below.refl _ _); (case aS => exact HR5.out.law.1.2.2.size); (case aL => rw [nums_len]; exact HLX.out); intro v6 w11 ho hb11 hg11 hat; rw [← nums_app, ← frs_snoc, ← HT.out] at ho; have HR8 := Aside0.mk (HR5.out.bytes ho hg11); clear ho hb11 hg11 hat)
          go_roundw
          case rel => exact ⟨i + 1, by go_num, hlt, ⟨_, HR8.out⟩⟩
          case measure => simp [intOf]; omega
        · obtain rfl : i = n8 := by omega
          have htl : (splB b).take i = splB b := by rw [HN8.out, List.take_length]
          rw [htl] at HR HNX
          clear hC8 htl
          have HRA := Aside0.mk (HR.out.law.1.1.read HPW.out.fit.ok nA nA_size)
          rw [HPW.out.read.2.2.1, show (some (frs (splB b))).getD [] = frs (splB b) from rfl] at HRA
          go_wp2_with fail
          refine HRA.out.mono ?_
          rintro e w12 ⟨v12, rfl, hF12, hb12⟩
          obtain ⟨Az, cz, ez, hlz, hCz⟩ := RB_slice hF12
          subst ez
          have HR12 := Aside0.mk (HR.out.below hb12)
          have HK := Aside0.mk (show Off (fun k => wr.heap.size ≤ k ∧ k < w12.heap.size) A5 ∧ Off (fun k => wr.heap.size ≤ k ∧ k < w12.heap.size) B5 from ⟨fun k hk ha => by have := (HR.out.law.1.2.1 k ha).2; omega, fun k hk ha => by have := (HR.out.law.2.2.2 k ha).2; omega⟩)
          have HFZ := Aside0.mk (show RB w12 wr.heap.size (fun k => wr.heap.size ≤ k ∧ k < w12.heap.size) (.slice Az (frs (splB b)).length cz) (frs (splB b)) from Kd.R_mono (Kd.R_bound hF12) (fun k hk => ⟨hk.1, hk.2.2.1⟩))
          have HRA := Aside0.mk (HR12.out.law.1.1.read HPW.out.fit.ok nN (by unfold maxLen; decide))
          rw [HPW.out.read.2.2.2.2] at HRA
          clear hF12 hb12 hCz
          go_wp2_with fail
          refine HRA.out.mono ?_
          rintro e w13 ⟨v13, rfl, hF13, hb13⟩
          obtain ⟨Aw, cw, ew, _, _⟩ := RB_slice hF13
          subst ew
          have HR13 := Aside0.mk (HR12.out.below hb13)
          have HFZ13 := Aside0.mk (Kd.R_below HFZ.out hb13)
          have HS12 := Aside0.mk hb13.size
          clear hF13 hb13 HRA
          have kc : (convert 22 22 (.slice (some ⟨w13.heap.size, 0, none⟩) 1 1)).run Try.prog (w13.alloc (.cells #[.int .u8 120] 5)) = .ok (.slice (some ⟨w13.heap.size, 0, none⟩) 1 1) (w13.alloc (.cells #[.int .u8 120] 5 (1, 2))) := (bytes_const w13 [120] (by decide)).1
          have hb14 := below_alloc (Below.refl w13.heap.size w13) (.cells #[.int .u8 120] 5 (1, 2))
          have hnew := HR13.out.law.new (Nat.le_refl w13.heap.size)
          have HR14 := Aside0.mk (HR13.out.below hb14)
          have HFZ14 := Aside0.mk (Kd.R_below HFZ13.out hb14)
          have HS13 := Aside0.mk hb14.size
          obtain ⟨e1, e2, e3⟩ := HPW.out.lapp (splB b) [120] (by decide) (by show ((frs (splB b)).length : Int) + 1 + 8 ≤ _; have := HF.out.1; omega)
          have HLA := Aside0.mk (lapp_calls _ A5 B5 q p ⟨nA, splB b, false⟩ sU (some ⟨w13.heap.size, 0, none⟩) 1 [120] HR14.out.law.2.1 HR14.out.law.1.1 HR14.out.law.2.2.1 (fun _ => HPW.out.fit.less (by decide) (by decide)) (fun w' hc => C_block (hc.blk (blk_new w13 _) hnew) rfl (by decide)) (by decide) (by decide) (by show nA.size ≤ 20; decide) (by show (splB b).length ≤ _; have := HF.out.2.1; omega))
          rw [e1, e2, e3] at HLA
          clear e1 e2 e3 hb14 hnew
          go_wp2_with fail
          refine HLA.out.mono ?_
          rintro e w15 ⟨rfl, A15, B15, hB15⟩
          have HR15 := Aside0.mk (HR14.out.log hB15)
          have HK15 := Aside0.mk (hB15.apart (C := fun k => wr.heap.size ≤ k ∧ k < w12.heap.size) (fun k hk => by have := HS12.out; have := HS13.out; omega) HK.out.1.symm HK.out.2.symm)
          have HFZ15 := Aside0.mk (RB_chg HFZ14.out hB15.chg (fun k hk hn => hn.elim (HK.out.1 k hk) (HK.out.2 k hk)))
          have HS15 := Aside0.mk hB15.chg.size
          have HOP := Aside0.mk (HR15.out.opnwB (xs := splB b ++ [[120]]) (fun z hz => (List.mem_append.1 hz).elim (fun g => by have := HF.out.2.2 z g; omega) (fun g => by rw [List.mem_singleton.1 g]; decide)) (by rw [frs_snoc]; rfl) (by rw [frs_snoc, List.length_append]; have := HF.out.1; show _ + 9 ≤ _; omega))
          clear hB15 HLA kc
          go_wp2_with fail
          refine HOP.out.mono ?_
          rintro e w16 ⟨q2, A16, B16, B2, rfl, hB16, hL16⟩
          have HR16 := Aside0.mk (HR15.out.log hB16)
          have HFZ16 := Aside0.mk (RB_chg HFZ15.out hB16.chg (fun k hk hn => hn.elim (HK15.out.1.symm k hk) (HK15.out.2.symm k hk)))
          have HL16 := Aside0.mk hL16
          clear hB16 hL16 HOP
          go_wp2_with fail
          refine (answers_calls _).mono ?_
          rintro e w17 ⟨rfl, hb17⟩
          have HR17 := Aside0.mk (HR16.out.below hb17)
          obtain ⟨Az', cz', ez, hlz', hCz⟩ := RB_slice (Kd.R_below HFZ16.out hb17)
          injection ez with ez ez' ez''
          subst ez ez''
          obtain ⟨Ax', cx', ex, hlx', hCx⟩ := RB_slice HR17.out.r8
          rw [← HNX.out] at ex
          injection ex with ex ex' ex''
          subst ex ex''
          have HS := Aside0.mk (same_yes hCz hCx hlz' hlx' (by have := HF.out.1; omega) rfl)
          have HLB := Aside0.mk (HL16.out.below hb17)
          rw [← HNX.out] at HS hlz'
          rw [← HNX.out]
          clear hb17 hCz hCx
          go_wp2_with fail
          refine HS.out.mono ?_
          rintro e w18 ⟨rfl, hb18⟩
          have HR18 := Aside0.mk (HR17.out.below hb18)
          have HRC := Aside0.mk (recs_calls w18 B2 q2 p _ (HLB.out.below hb18) (by show (splB b ++ [[120]]).length ≤ _; rw [List.length_append]; have := HF.out.2.1; show _ + 1 ≤ _; omega) (fun z hz => (List.mem_append.1 hz).elim (fun g => by have := HF.out.2.2 z g; omega) (fun g => by rw [List.mem_singleton.1 g]; decide)))
          clear hb18 HS
          go_wp2_with fail
          refine HRC.out.mono ?_
          rintro e w19 ⟨v19, rfl, hn19, hb19⟩
          have HR19 := Aside0.mk (HR18.out.below hb19)
          have HNM := Aside0.mk (Kd.N_bound hn19)
          obtain ⟨Am, cm, em, hlm, _⟩ := NB_slice hn19
          subst em
          have HS18 := Aside0.mk hb19.size
          clear hn19 hb19 HRC
          have kc : (convert 22 22 (.slice (some ⟨w19.heap.size, 0, none⟩) 1 1)).run Try.prog (w19.alloc (.cells #[.int .u8 120] 5)) = .ok (.slice (some ⟨w19.heap.size, 0, none⟩) 1 1) (w19.alloc (.cells #[.int .u8 120] 5 (1, 2))) := (bytes_const w19 [120] (by decide)).1
          obtain ⟨w20, hw20⟩ : ∃ w, w = w19.alloc (.cells #[.int .u8 120] 5 (1, 2)) := ⟨_, rfl⟩
          have hb20 : Below w19.heap.size w19 w20 := by rw [hw20]; exact below_alloc (Below.refl w19.heap.size w19) _
          have hblk : w20.heap[w19.heap.size]? = some (.cells #[.int .u8 120] 5 (1, 2)) := by rw [hw20]; exact blk_new w19 _
          rw [← hw20] at kc
          have HR20 := Aside0.mk (HR19.out.below hb20)
          have HNM20 := Aside0.mk (Kd.N_below HNM.out hb20)
          have HBK := Aside0.mk hblk
          have HS19 := Aside0.mk hb20.size
          clear hw20 hb20 hblk
          go_wp2_with ((with_reducible refine gate_builtin (b := .append) (xs := #[.tmp 110, .tmp 113]) rfl ?_); (refine gate_guard (by rfl) ?_; dsimp only); at_builtin; refine Kd.N_append (Kd.slice 5 (Kd.int .u8)) (w0 := w20) (W := w20) 0 rfl (.tmp 110) (.tmp 113) 32 22 (.slice none 0 0) 24 rfl Try.underlying32 infoSl rfl (by decide) (by omega) (.slice A8 i c8) ((splB b).map numsL) (numsL [120]) [.slice (some ⟨w19.heap.size, 0, none⟩) 1 1] (fun k => (D k ∨ k < W.heap.size) ∨ w19.heap.size ≤ k) (fun k => k = w19.heap.size) rfl rfl ?aM ?aK ?aF ?aO ?aB ?aS ?aL ?_; (case aM => exact F_block (b := [120]) HBK.out rfl (by decide)); (case aK => exact fun k hk => ⟨.inr (by rw [hk]; exact Nat.le_refl _), fun he => by have h2 := (HR19.out.sets.d k (HR19.out.o9 k he.symm)).2; omega⟩); (case aF => exact fun k hk => .inr (Nat.le_trans HS19.out hk)); (case aO => exact Kd.N_mono HR20.out.r9 (fun k hk => .inl hk)); (case aB => exact Below.refl _ _); (case aS => exact Nat.zero_le _); (case aL => rw [List.length_map, ← HN8.out]; omega); intro v21 w21 ho21 hb21 hg21 hat21; have HO21 := Aside0.mk (N_one ho21); have HG21 := Aside0.mk (Chg.of_grown (F := D) hg21 (fun k hk => .inl (HR20.out.o9 k hk))); obtain ⟨Aq, cq, eq, hlq, hCq⟩ := NB_slice (N_one ho21); subst eq; clear ho21 hb21 hg21 hat21)
          have HNM21 := Aside0.mk (NB_chg HNM20.out HG21.out (fun k hk hd => by have h2 := (HR18.out.sets.d k hd).2; have := hk.1; omega))
          obtain ⟨Am', cm', em, hlm', hCm⟩ := NB_slice HNM21.out
          injection em with em em' em''
          subst em em''
          have HS := Aside0.mk (sameAll_yes hCm hCq hlm' hlq (by rw [List.length_append]; have := HF.out.2.1; show _ + 1 < _; omega) (fun z hz => (List.mem_append.1 hz).elim (fun g => by have := HF.out.2.2 z g; omega) (fun g => by rw [List.mem_singleton.1 g]; decide)) rfl)
          have HLW := Aside0.mk (HR20.out.law.1.2.2.trans (HG21.out.to_below (fun k hk => (HR20.out.sets.d k hk).1) HR20.out.law.1.2.2.size))
          have hlen : (splB b ++ [([120] : By)]).length = (splB b).length + 1 := by rw [List.length_append, List.length_singleton]
          rw [hlen] at HS
          clear hCm hCq
          refine HS.out.mono ?_
          rintro e w22 ⟨rfl, hb22⟩
          have HEND := Aside0.mk (HLW.out.trans (hb22.mono HLW.out.size))
          clear hb22 HS
          go_wp2
          go_ret
          exact ⟨rfl, HEND.out⟩
    | true =>
      go_enter Try.func3, Try.ntmps3
      go_wp2_with fail
      refine (HNW.out _).mono ?_
      rintro e w1 ⟨p, A1, rfl, hD1⟩
      have HT := Aside0.mk (HAP.out _ _ _ hD1)
      clear hD1 HNW HAP
      go_wp2_with fail
      refine HT.out.mono ?_
      rintro e w2 ⟨rfl, A2, hD2⟩
      have HD2 := Aside0.mk hD2
      clear hD2 HT
      have kc : (convert 22 22 (.slice (some ⟨w2.heap.size, 0, none⟩) 4 4)).run Try.prog (w2.alloc (.cells #[.int .u8 108, .int .u8 101, .int .u8 102, .int .u8 116] 5)) = .ok (.slice (some ⟨w2.heap.size, 0, none⟩) 4 4) (w2.alloc (.cells #[.int .u8 108, .int .u8 101, .int .u8 102, .int .u8 116] 5 (4, 5))) := (bytes_const w2 [108, 101, 102, 116] (by decide)).1
      have HT := Aside0.mk ((HD2.out.below (below_alloc (Below.refl w2.heap.size w2) (.cells #[.int .u8 108, .int .u8 101, .int .u8 102, .int .u8 116] 5 (4, 5)))).app (st1_fit b HB.out).ok nN (by unfold maxLen; decide) (some ⟨w2.heap.size, 0, none⟩) 4 leftB (C_block (blk_new w2 _) rfl (by decide)) (by decide))
      go_wp2_with fail
      refine HT.out.mono ?_
      rintro e w3 ⟨rfl, A3, hD3⟩
      have HT := Aside0.mk (hD3.syn (stL_fit b HB.out).ok)
      rw [show syncS (appendS (appendS (newS 16777216) nA b) nN leftB) = stT true b from st1_left b HB.out] at HT
      clear hD3 kc
      go_wp2_with fail
      refine HT.out.mono ?_
      rintro e w4 ⟨rfl, A4, hD4⟩
      have HOP := Aside0.mk (stT_open true b HB.out)
      have HT := Aside0.mk (hD4.opn (stT_fit true b HB.out).ok nA (fun _ => by rw [HOP.out.2.2.2]; have := HB.out; exact (stT_fit true b HB.out).less (by omega) (by decide)) (by rw [HOP.out.2.2.2]; have := HB.out; have := spl_few b; exact ⟨by omega, by omega⟩) nA_size HOP.out.1)
      rw [HOP.out.2.2.1] at HT
      have HPW := Aside0.mk HOP.out.2.1
      obtain ⟨sU, hsU⟩ : ∃ s, s = opS (stT true b) nA := ⟨_, rfl⟩
      rw [← hsU] at HT HPW
      have HF := Aside0.mk (show (frs (splB b)).length ≤ 3000 ∧ (splB b).length ≤ 3000 ∧ ∀ y ∈ splB b, y.length ≤ 3000 from ⟨Nat.le_trans (spl_le b) HB.out, Nat.le_trans (spl_few b) HB.out, fun y hy => Nat.le_trans (frs_mem hy) (Nat.le_trans (spl_le b) HB.out)⟩)
      clear hsU hD4 HOP
      go_wp2_with fail
      refine HT.out.mono ?_
      rintro e w5 ⟨q, A5, B5, rfl, hL5, _, _, _⟩
      have HL5 := Aside0.mk (LR.start hL5)
      have HT := Aside0.mk (frames_calls w5 Ab c b (Kd.C_below HC.out hL5.1.2.2) HCC.out (by have := HB.out; omega))
      clear hL5
      go_wp2_with fail
      refine HT.out.mono ?_
      rintro e w6 ⟨v8, t8, rfl, hn6, hb6⟩
      have hR6 := HL5.out.take9 hb6 hn6
      obtain ⟨D, hD⟩ : ∃ D : Nat → Prop, D = (fun k => w5.heap.size ≤ k ∧ k < w6.heap.size) := ⟨_, rfl⟩
      rw [← hD] at hR6
      obtain ⟨A8, c8, e8, hl8, hC8⟩ := NB_slice hR6.r9
      obtain ⟨n8, hn8⟩ : ∃ n, n = (splB b).length := ⟨_, rfl⟩
      rw [← hn8] at e8 hl8
      subst e8
      have HN8 := Aside0.mk hn8
      have HR6 := Aside0.mk hR6
      have HT := Aside0.mk (hR6.recs' (by have := HF.out.2.1; omega) (fun y hy => by have := HF.out.2.2 y hy; omega))
      have hn8l : n8 ≤ 3000 := by rw [HN8.out]; exact HF.out.2.1
      clear hR6 hD hn6 hb6 hC8 hn8
      go_wp2_with fail
      refine HT.out.mono ?_
      rintro e w7 ⟨v7, rfl, hn7, hR7⟩
      obtain ⟨A7, c7, rfl, hl7, hC7⟩ := NB_slice hn7
      have HR7 := Aside0.mk hR7
      obtain ⟨A8', c8', e8, hl8', hC8⟩ := NB_slice hR7.r9
      rw [← HN8.out] at e8
      injection e8 with e8 e8' e8''
      subst e8 e8''
      have HS := Aside0.mk (sameAll_yes hC7 hC8 hl7 hl8' (by have := HF.out.2.1; omega) (fun y hy => by have := HF.out.2.2 y hy; omega) rfl)
      rw [← HN8.out] at HS hl7
      rw [← HN8.out]
      clear hn7 hR7 hC7 hC8 HT
      go_wp2_with fail
      refine HS.out.mono ?_
      rintro e w9 ⟨rfl, hb9⟩
      have HR9 := Aside0.mk (HR7.out.below hb9)
      clear HS hb9 hl7
      go_wp2
      go_loopw [10, 11] (fun v10 v11 wr => ∃ i : Nat, v11 = .int .i64 i ∧ i ≤ n8 ∧ Aside0 (∃ C, LR W wr A5 B5 C D q p ⟨nA, splB b, false⟩ sU v10 (frs ((splB b).take i)) (.slice A8 n8 c8) (splB b))) (fun _ v11 _ => n8 - (intOf v11).toNat)
      case atStart => exact ⟨0, rfl, Nat.zero_le _, ⟨_, HR9.out⟩⟩
      case round =>
        obtain ⟨i, rfl, hi, HI⟩ := hrel
        obtain ⟨C, hR⟩ := HI.out
        have HR := Aside0.mk hR
        obtain ⟨Ax, cx, ex, hlx, hCx⟩ := RB_slice hR.r8
        obtain ⟨nx, hnx⟩ : ∃ n, n = (frs ((splB b).take i)).length := ⟨_, rfl⟩
        rw [← hnx] at ex hlx
        subst ex
        have HNX := Aside0.mk hnx
        obtain ⟨A8', c8', e8, hl8', hC8⟩ := NB_slice hR.r9
        rw [← HN8.out] at e8
        injection e8 with e8 e8' e8''
        subst e8 e8''
        clear HI hR hCx hnx
        by_cases hlt : i < n8
        · have hlt' : i < (splB b).length := by rw [← HN8.out]; exact hlt
          obtain ⟨ad, A1, c1, rfl, hc0, hlc1, hC0⟩ := rec_at hC8 i hlt'
          obtain ⟨y, hy⟩ : ∃ y, y = (splB b)[i] := ⟨_, rfl⟩
          have HT := Aside0.mk (show (splB b).take (i + 1) = (splB b).take i ++ [y] from by rw [List.take_succ_eq_append_getElem hlt', hy])
          have hyl : y.length ≤ 3000 := by rw [hy]; exact HF.out.2.2 _ (List.getElem_mem hlt')
          rw [← hy] at hc0 hlc1 hC0
          have HRF := Aside0.mk (refFrame_calls wr A1 c1 y hC0 hlc1 (by omega))
          clear hy hC0 hC8
          go_wp2_with fail
          refine HRF.out.mono ?_
          rintro e w10 ⟨v5, rfl, hF5, hb5⟩
          obtain ⟨A5', c5, e5, hl5, hC5⟩ := RB_slice hF5
          obtain ⟨n5, hn5⟩ : ∃ n, n = (frB y).length := ⟨_, rfl⟩
          rw [← hn5] at e5 hl5
          subst e5
          have HC5 := Aside0.mk hC5
          have HR5 := Aside0.mk (HR.out.below hb5)
          have HNN := Aside0.mk hn5
          have HLX := Aside0.mk (show ((frs ((splB b).take i)).length + n5) * 1 ≤ 140737488355328 from by rw [HNN.out, frB_len]; have := HF.out.1; have := frs_take_le (splB b) i; omega)
          clear hF5 hb5 hC5 hc0 hn5 HRF
          go_wp2_with ((with_reducible refine gate_builtin (b := .append) (xs := #[.tmp 63, .tmp 68]) rfl ?_); at_builtin; refine Kd.R_append_rows (Kd.int .u8) (Rr := (Kd.int .u8).K w10) (w0 := w10) W.heap.size rfl (.tmp 63) (.tmp 68) 22 5 (.int .u8 0) 1 rfl Try.underlying22 infoU8 rfl (by decide) (by omega) (.slice Ax nx cx) (numsL (frs ((splB b).take i))) (numsL (frB y)) A5' n5 c5 (fun k => C k ∨ w10.heap.size ≤ k) (fun _ => False) rfl rfl ?aO ?aR ?aK (fun _ hk => hk.elim) ?aF ?aB ?aS ?aL ?_; (case aO => exact HR5.out.okC (Below.refl _ _)); (case aR => rw [HNN.out]; exact (nums_len (frB y) ▸ HC5.out)); (case aK => exact fun x cs hx => hx); (case aF => exact fun _ hk => .inr hk); (case aB => exact Below.refl _ _); (case aS => exact HR5.out.law.1.2.2.size); (case aL => rw [nums_len]; exact HLX.out); intro v6 w11 ho hb11 hg11 hat; rw [← nums_app, ← frs_snoc, ← HT.out] at ho; have HR8 := Aside0.mk (HR5.out.bytes ho hg11); clear ho hb11 hg11 hat)
          go_roundw
          case rel => exact ⟨i + 1, by go_num, hlt, ⟨_, HR8.out⟩⟩
          case measure => simp [intOf]; omega
        · obtain rfl : i = n8 := by omega
          have htl : (splB b).take i = splB b := by rw [HN8.out, List.take_length]
          rw [htl] at HR HNX
          clear hC8 htl
          have HRA := Aside0.mk (HR.out.law.1.1.read HPW.out.fit.ok nA nA_size)
          rw [HPW.out.read.2.2.1, show (some (frs (splB b))).getD [] = frs (splB b) from rfl] at HRA
          go_wp2_with fail
          refine HRA.out.mono ?_
          rintro e w12 ⟨v12, rfl, hF12, hb12⟩
          obtain ⟨Az, cz, ez, hlz, hCz⟩ := RB_slice hF12
          subst ez
          have HR12 := Aside0.mk (HR.out.below hb12)
          have HK := Aside0.mk (show Off (fun k => wr.heap.size ≤ k ∧ k < w12.heap.size) A5 ∧ Off (fun k => wr.heap.size ≤ k ∧ k < w12.heap.size) B5 from ⟨fun k hk ha => by have := (HR.out.law.1.2.1 k ha).2; omega, fun k hk ha => by have := (HR.out.law.2.2.2 k ha).2; omega⟩)
          have HFZ := Aside0.mk (show RB w12 wr.heap.size (fun k => wr.heap.size ≤ k ∧ k < w12.heap.size) (.slice Az (frs (splB b)).length cz) (frs (splB b)) from Kd.R_mono (Kd.R_bound hF12) (fun k hk => ⟨hk.1, hk.2.2.1⟩))
          have HRA := Aside0.mk (HR12.out.law.1.1.read HPW.out.fit.ok nN (by unfold maxLen; decide))
          rw [HPW.out.read.2.2.2.2] at HRA
          clear hF12 hb12 hCz
          go_wp2_with fail
          refine HRA.out.mono ?_
          rintro e w13 ⟨v13, rfl, hF13, hb13⟩
          obtain ⟨Aw, cw, ew, _, _⟩ := RB_slice hF13
          subst ew
          have HR13 := Aside0.mk (HR12.out.below hb13)
          have HFZ13 := Aside0.mk (Kd.R_below HFZ.out hb13)
          have HS12 := Aside0.mk hb13.size
          clear hF13 hb13 HRA
          have kc : (convert 22 22 (.slice (some ⟨w13.heap.size, 0, none⟩) 1 1)).run Try.prog (w13.alloc (.cells #[.int .u8 120] 5)) = .ok (.slice (some ⟨w13.heap.size, 0, none⟩) 1 1) (w13.alloc (.cells #[.int .u8 120] 5 (1, 2))) := (bytes_const w13 [120] (by decide)).1
          have hb14 := below_alloc (Below.refl w13.heap.size w13) (.cells #[.int .u8 120] 5 (1, 2))
          have hnew := HR13.out.law.new (Nat.le_refl w13.heap.size)
          have HR14 := Aside0.mk (HR13.out.below hb14)
          have HFZ14 := Aside0.mk (Kd.R_below HFZ13.out hb14)
          have HS13 := Aside0.mk hb14.size
          obtain ⟨e1, e2, e3⟩ := HPW.out.lapp (splB b) [120] (by decide) (by show ((frs (splB b)).length : Int) + 1 + 8 ≤ _; have := HF.out.1; omega)
          have HLA := Aside0.mk (lapp_calls _ A5 B5 q p ⟨nA, splB b, false⟩ sU (some ⟨w13.heap.size, 0, none⟩) 1 [120] HR14.out.law.2.1 HR14.out.law.1.1 HR14.out.law.2.2.1 (fun _ => HPW.out.fit.less (by decide) (by decide)) (fun w' hc => C_block (hc.blk (blk_new w13 _) hnew) rfl (by decide)) (by decide) (by decide) (by show nA.size ≤ 20; decide) (by show (splB b).length ≤ _; have := HF.out.2.1; omega))
          rw [e1, e2, e3] at HLA
          clear e1 e2 e3 hb14 hnew
          go_wp2_with fail
          refine HLA.out.mono ?_
          rintro e w15 ⟨rfl, A15, B15, hB15⟩
          have HR15 := Aside0.mk (HR14.out.log hB15)
          have HK15 := Aside0.mk (hB15.apart (C := fun k => wr.heap.size ≤ k ∧ k < w12.heap.size) (fun k hk => by have := HS12.out; have := HS13.out; omega) HK.out.1.symm HK.out.2.symm)
          have HFZ15 := Aside0.mk (RB_chg HFZ14.out hB15.chg (fun k hk hn => hn.elim (HK.out.1 k hk) (HK.out.2 k hk)))
          have HS15 := Aside0.mk hB15.chg.size
          have HOP := Aside0.mk (HR15.out.opnwB (xs := splB b ++ [[120]]) (fun z hz => (List.mem_append.1 hz).elim (fun g => by have := HF.out.2.2 z g; omega) (fun g => by rw [List.mem_singleton.1 g]; decide)) (by rw [frs_snoc]; rfl) (by rw [frs_snoc, List.length_append]; have := HF.out.1; show _ + 9 ≤ _; omega))
          clear hB15 HLA kc
          go_wp2_with fail
          refine HOP.out.mono ?_
          rintro e w16 ⟨q2, A16, B16, B2, rfl, hB16, hL16⟩
          have HR16 := Aside0.mk (HR15.out.log hB16)
          have HFZ16 := Aside0.mk (RB_chg HFZ15.out hB16.chg (fun k hk hn => hn.elim (HK15.out.1.symm k hk) (HK15.out.2.symm k hk)))
          have HL16 := Aside0.mk hL16
          clear hB16 hL16 HOP
          go_wp2_with fail
          refine (answers_calls _).mono ?_
          rintro e w17 ⟨rfl, hb17⟩
          have HR17 := Aside0.mk (HR16.out.below hb17)
          obtain ⟨Az', cz', ez, hlz', hCz⟩ := RB_slice (Kd.R_below HFZ16.out hb17)
          injection ez with ez ez' ez''
          subst ez ez''
          obtain ⟨Ax', cx', ex, hlx', hCx⟩ := RB_slice HR17.out.r8
          rw [← HNX.out] at ex
          injection ex with ex ex' ex''
          subst ex ex''
          have HS := Aside0.mk (same_yes hCz hCx hlz' hlx' (by have := HF.out.1; omega) rfl)
          have HLB := Aside0.mk (HL16.out.below hb17)
          rw [← HNX.out] at HS hlz'
          rw [← HNX.out]
          clear hb17 hCz hCx
          go_wp2_with fail
          refine HS.out.mono ?_
          rintro e w18 ⟨rfl, hb18⟩
          have HR18 := Aside0.mk (HR17.out.below hb18)
          have HRC := Aside0.mk (recs_calls w18 B2 q2 p _ (HLB.out.below hb18) (by show (splB b ++ [[120]]).length ≤ _; rw [List.length_append]; have := HF.out.2.1; show _ + 1 ≤ _; omega) (fun z hz => (List.mem_append.1 hz).elim (fun g => by have := HF.out.2.2 z g; omega) (fun g => by rw [List.mem_singleton.1 g]; decide)))
          clear hb18 HS
          go_wp2_with fail
          refine HRC.out.mono ?_
          rintro e w19 ⟨v19, rfl, hn19, hb19⟩
          have HR19 := Aside0.mk (HR18.out.below hb19)
          have HNM := Aside0.mk (Kd.N_bound hn19)
          obtain ⟨Am, cm, em, hlm, _⟩ := NB_slice hn19
          subst em
          have HS18 := Aside0.mk hb19.size
          clear hn19 hb19 HRC
          have kc : (convert 22 22 (.slice (some ⟨w19.heap.size, 0, none⟩) 1 1)).run Try.prog (w19.alloc (.cells #[.int .u8 120] 5)) = .ok (.slice (some ⟨w19.heap.size, 0, none⟩) 1 1) (w19.alloc (.cells #[.int .u8 120] 5 (1, 2))) := (bytes_const w19 [120] (by decide)).1
          obtain ⟨w20, hw20⟩ : ∃ w, w = w19.alloc (.cells #[.int .u8 120] 5 (1, 2)) := ⟨_, rfl⟩
          have hb20 : Below w19.heap.size w19 w20 := by rw [hw20]; exact below_alloc (Below.refl w19.heap.size w19) _
          have hblk : w20.heap[w19.heap.size]? = some (.cells #[.int .u8 120] 5 (1, 2)) := by rw [hw20]; exact blk_new w19 _
          rw [← hw20] at kc
          have HR20 := Aside0.mk (HR19.out.below hb20)
          have HNM20 := Aside0.mk (Kd.N_below HNM.out hb20)
          have HBK := Aside0.mk hblk
          have HS19 := Aside0.mk hb20.size
          clear hw20 hb20 hblk
          go_wp2_with ((with_reducible refine gate_builtin (b := .append) (xs := #[.tmp 110, .tmp 113]) rfl ?_); (refine gate_guard (by rfl) ?_; dsimp only); at_builtin; refine Kd.N_append (Kd.slice 5 (Kd.int .u8)) (w0 := w20) (W := w20) 0 rfl (.tmp 110) (.tmp 113) 32 22 (.slice none 0 0) 24 rfl Try.underlying32 infoSl rfl (by decide) (by omega) (.slice A8 i c8) ((splB b).map numsL) (numsL [120]) [.slice (some ⟨w19.heap.size, 0, none⟩) 1 1] (fun k => (D k ∨ k < W.heap.size) ∨ w19.heap.size ≤ k) (fun k => k = w19.heap.size) rfl rfl ?aM ?aK ?aF ?aO ?aB ?aS ?aL ?_; (case aM => exact F_block (b := [120]) HBK.out rfl (by decide)); (case aK => exact fun k hk => ⟨.inr (by rw [hk]; exact Nat.le_refl _), fun he => by have h2 := (HR19.out.sets.d k (HR19.out.o9 k he.symm)).2; omega⟩); (case aF => exact fun k hk => .inr (Nat.le_trans HS19.out hk)); (case aO => exact Kd.N_mono HR20.out.r9 (fun k hk => .inl hk)); (case aB => exact Below.refl _ _); (case aS => exact Nat.zero_le _); (case aL => rw [List.length_map, ← HN8.out]; omega); intro v21 w21 ho21 hb21 hg21 hat21; have HO21 := Aside0.mk (N_one ho21); have HG21 := Aside0.mk (Chg.of_grown (F := D) hg21 (fun k hk => .inl (HR20.out.o9 k hk))); obtain ⟨Aq, cq, eq, hlq, hCq⟩ := NB_slice (N_one ho21); subst eq; clear ho21 hb21 hg21 hat21)
          have HNM21 := Aside0.mk (NB_chg HNM20.out HG21.out (fun k hk hd => by have h2 := (HR18.out.sets.d k hd).2; have := hk.1; omega))
          obtain ⟨Am', cm', em, hlm', hCm⟩ := NB_slice HNM21.out
          injection em with em em' em''
          subst em em''
          have HS := Aside0.mk (sameAll_yes hCm hCq hlm' hlq (by rw [List.length_append]; have := HF.out.2.1; show _ + 1 < _; omega) (fun z hz => (List.mem_append.1 hz).elim (fun g => by have := HF.out.2.2 z g; omega) (fun g => by rw [List.mem_singleton.1 g]; decide)) rfl)
          have HLW := Aside0.mk (HR20.out.law.1.2.2.trans (HG21.out.to_below (fun k hk => (HR20.out.sets.d k hk).1) HR20.out.law.1.2.2.size))
          have hlen : (splB b ++ [([120] : By)]).length = (splB b).length + 1 := by rw [List.length_append, List.length_singleton]
          rw [hlen] at HS
          clear hCm hCq
          refine HS.out.mono ?_
          rintro e w22 ⟨rfl, hb22⟩
          have HEND := Aside0.mk (HLW.out.trans (hb22.mono HLW.out.size))
          clear hb22 HS
          go_wp2
          go_ret
          exact ⟨rfl, HEND.out⟩
theorem LogTorn_row (W : World) (A : Option Addr) (c : Nat) (xs : List Int) (o : Bool) (hC : Kd.C (Kd.int .u8) W A xs.length xs) (hc : xs.length ≤ c) (hx : xs.length * 1 ≤ 140737488351232 ∧ ∀ x ∈ xs, (Lit.int .u8 x).wf = true) :
    Calls Try.prog 3 #[.slice A xs.length c, .bool o] W fun e w' => e = .returned (.bool true) ∧ Below W.heap.size W w' := by
  obtain ⟨b, rfl⟩ := nums_of xs hx.2
  have h1 := hx.1
  have := LogTorn_calls W A c b o hC (by rw [nums_len] at hc; exact hc) (by rw [nums_len] at h1; omega)
  rw [nums_len]
  exact this
end Go.Proofs.Ytipclnniaenciaa.Hand
