/- Open: what lasted, over memory. -/
import Derived.Test.YtipclnniaenciaaLogRecs
namespace Go.Proofs.Ytipclnniaenciaa.Hand
open Go.RowKit Go.Maps Go.Proofs.YtipclnniaenciaaW.PrintWords Go.Proofs.YtipclnniaenciaaW.PrintLast Go.Proofs.YtipclnniaenciaaW.PrintMore
set_option linter.unusedVariables false
set_option linter.unusedSimpArgs false
theorem Sp.trans {w0 w w' : World} {A0 A A' : Nat → Prop} {p : Nat} {st st' : DSt} (h : Sp w0 A0 p w A st) (k : Sp w A p w' A' st') : Sp w0 A0 p w' A' st' :=
  ⟨k.1, h.2.1.trans k.2.1 h.2.2.size, h.2.2.then_ k.2.2 (fun x hx => (h.2.1 x hx).1)⟩
def OpPost (w : World) (A : Nat → Prop) (p : Nat) (st : DSt) (s : ByteArray) (e : Ending) (w' : World) : Prop :=
  ∃ A', Sp w A p w' A' (opS st s) ∧ ((opR st s ≠ 0 ∧ e = .returned (.tuple #[.pointer none, .int .i64 (opR st s)])) ∨ (opR st s = 0 ∧ ∃ q B, e = .returned (.tuple #[.pointer (some ⟨q, 0, none⟩), .int .i64 0]) ∧ Lg w' B q p (opL st s) ∧ (∀ k, B k → w.heap.size ≤ k) ∧ Off A' B))
theorem OpPost.no {w w' : World} {A A' : Nat → Prop} {p : Nat} {st st' : DSt} {s : ByteArray} {r : Int} (hS : Sp w A p w' A' st') (h1 : opS st s = st') (h2 : opR st s = r) (h3 : r ≠ 0) : OpPost w A p st s (.returned (.tuple #[.pointer none, .int .i64 r])) w' :=
  ⟨A', by rw [h1]; exact hS, .inl ⟨by rw [h2]; exact h3, by rw [h2]⟩⟩
theorem OpPost.yes {w w' : World} {A A' : Nat → Prop} {p q : Nat} {B : Nat → Prop} {st st' : DSt} {s : ByteArray} {l : LSt} (hS : Sp w A p w' A' st') (h1 : opS st s = st') (h2 : opR st s = 0) (hL : Lg w' B q p l) (h4 : opL st s = l) (h5 : ∀ k, B k → w.heap.size ≤ k) (h6 : Off A' B) : OpPost w A p st s (.returned (.tuple #[.pointer (some ⟨q, 0, none⟩), .int .i64 0])) w' :=
  ⟨A', by rw [h1]; exact hS, .inr ⟨h2, q, B, rfl, by rw [h4]; exact hL, h5, h6⟩⟩
theorem logGood_size {s : ByteArray} (h : logGood s = true) : s.size ≤ 20 := by
  unfold logGood at h
  rw [Bool.and_eq_true, decide_eq_true_eq] at h
  exact h.2
theorem spl_le (b : By) : (frs (splB b)).length ≤ b.length := by
  obtain ⟨⟨r, hr⟩, _⟩ := splB_front b
  conv => rhs; rw [hr, List.length_append]
  omega
theorem open_nil (w : World) (s : ByteArray) :
    Calls Try.prog 12 #[.pointer none, .string s] w fun e w' => e = .returned (.tuple #[.pointer none, .int .i64 1]) ∧ w' = w := by
  go_enter Try.func12, Try.ntmps12
  go_wp2
  go_ret2
  exact ⟨rfl, rfl⟩
/-- The new log, boxed. -/
theorem Lg.boxed {w3 w4 : World} {v4 : Value} {s : ByteArray} {rs : List By} {p : Nat} (hn : NB w4 (fun k => w3.heap.size ≤ k) v4 rs) (hs : w3.heap.size ≤ w4.heap.size) :
    Lg (w4.alloc (.cells #[.pointer (some ⟨p, 0, none⟩), .string s, v4, .bool false] 67)) (fun k => w3.heap.size ≤ k) w4.heap.size p ⟨s, rs, false⟩ :=
  ⟨v4, (blk_new w4 _).trans rfl, Kd.N_mono (Kd.N_below (Kd.N_bound hn) (below_alloc (Below.refl _ _) _)) (fun k hk => ⟨hk.1, by have := hk.2; omega⟩), hs⟩
set_option maxRecDepth 100000 in
set_option maxHeartbeats 16000000 in
theorem open_calls (w : World) (A : Nat → Prop) (p : Nat) (st : DSt) (s : ByteArray) (hD : Dsk w A p st) (hok : st.Ok) (hfit : logGood s = true → st.Fit (readB (removeS st (newN s)) s).length 4) (hsz : (readB (removeS st (newN s)) s).length ≤ 1000000000 ∧ (splB (readB (removeS st (newN s)) s)).length ≤ 100000000) (hs : s.size ≤ maxLen) :
    Calls Try.prog 12 #[.pointer (some ⟨p, 0, none⟩), .string s] w (OpPost w A p st s) := by
  have HLN := Aside0.mk (logName_calls s hs w)
  have HS0 := Aside0.mk (Sp.of hD)
  have HF := Aside0.mk hfit
  have HSZ := Aside0.mk hsz
  clear hD hfit hsz hok hs
  cases hg : logGood s with
  | false =>
    rw [hg] at HLN
    have HE := Aside0.mk (show opR st s = 1 from by unfold opR; rw [if_pos hg])
    have HG := Aside0.mk (show opS st s = st from by unfold opS; rw [if_pos hg])
    clear hg
    go_enter Try.func12, Try.ntmps12
    go_wp2_with fail
    refine HLN.out.mono ?_
    rintro e w1 ⟨rfl, q1, rfl⟩
    go_wp2
    go_ret2
    exact OpPost.no (HS0.out.below (pw_below_drewN (Below.refl _ _) q1)) HG.out HE.out (by decide)
  | true =>
    have hsz20 := logGood_size hg
    have hns := newN_size s
    have HF0 := Aside0.mk (HF.out hg)
    have HF1 := Aside0.mk (DSt.Fit.remove (s := newN s) (m := 3) HF0.out)
    rw [hg] at HLN
    have HGG := Aside0.mk hg
    have hc4 : s.size + 4 ≤ 9223372036854775807 := by omega
    have hn4 : (⟨#[46, 110, 101, 119]⟩ : ByteArray).size = 4 := rfl
    have hsum : s.size + (⟨#[46, 110, 101, 119]⟩ : ByteArray).size ≤ 9223372036854775807 := by rw [hn4]; exact hc4
    have HNS := Aside0.mk hns
    obtain ⟨r1, hr1⟩ : ∃ r, r = removeR st (newN s) := ⟨_, rfl⟩
    obtain ⟨s1, hs1⟩ : ∃ r, r = removeS st (newN s) := ⟨_, rfl⟩
    obtain ⟨r2, hr2⟩ : ∃ r, r = readR s1 s := ⟨_, rfl⟩
    obtain ⟨b, hb⟩ : ∃ r, r = readB s1 s := ⟨_, rfl⟩
    have hT0 := fun (q1 : Nat) => (HS0.out.below (pw_below_drewN (Below.refl _ _) q1)).rem HF0.out.ok (newN s) (by rw [hns]; unfold maxLen; omega)
    rw [← hr1, ← hs1] at hT0
    rw [← hs1] at HF1 HSZ
    rw [← hb] at HF1 HSZ
    have HT0 := Aside0.mk hT0
    have HR1 := Aside0.mk hr1
    have HS1 := Aside0.mk hs1
    have HR2 := Aside0.mk hr2
    have HB := Aside0.mk hb
    have HRD := Aside0.mk (fun W A2 (h : Sp w A p W A2 s1) => by have := h.1.read HF1.out.ok s (by unfold maxLen; omega); rw [← hr2, ← hb] at this; exact this)
    have hbl : b.length < 100000000000 := by have := HSZ.out.1; omega
    clear hT0 hr1 hs1 hr2 hb hns hn4 hg HF0 HF
    go_enter Try.func12, Try.ntmps12
    go_wp2_with fail
    refine HLN.out.mono ?_
    rintro e w1 ⟨rfl, q1, rfl⟩
    go_wp2_with fail
    refine (HT0.out q1).mono ?_
    rintro e w2 ⟨rfl, A2, hS2⟩
    have HS2 := Aside0.mk hS2
    clear hS2 HT0 HLN
    by_cases h1 : r1 = 0
    · have hb1 : (r1 != 0) = false := by rw [h1]; rfl
      have HZ1 := Aside0.mk (show ¬ goesB r1 = false from by rw [h1]; decide)
      clear h1
      go_wp2_with fail
      refine (HRD.out w2 A2 HS2.out).mono ?_
      rintro e w3 ⟨v3, rfl, hR3, hb3⟩
      obtain ⟨A3, c3, rfl, hl3, hC3⟩ := RB_slice hR3
      have HC3 := Aside0.mk hC3
      have HS3 := Aside0.mk (HS2.out.below hb3)
      clear hR3 hC3 hb3 HRD
      by_cases h2 : r2 = 0
      · have hb2 : (r2 != 0) = false := by rw [h2]; rfl
        have HZ2 := Aside0.mk (show ¬ goesB r2 = false from by rw [h2]; decide)
        clear h2
        have HEN := Aside0.mk (fun (h : ¬ (frs (splB b)).length < b.length) => (show opR st s = 0 from by unfold opR; rw [← HR1.out, ← HS1.out, ← HR2.out, ← HB.out, if_neg (by rw [HGG.out]; simp), if_neg HZ1.out, if_neg HZ2.out, if_neg h]))
        have HGN := Aside0.mk (fun (h : ¬ (frs (splB b)).length < b.length) => (show opS st s = s1 from by unfold opS; rw [← HR1.out, ← HS1.out, ← HR2.out, ← HB.out, if_neg (by rw [HGG.out]; simp), if_neg HZ1.out, if_neg HZ2.out, if_neg h]))
        have HEY := Aside0.mk (fun (h : (frs (splB b)).length < b.length) => (show opR st s = layR s1 s (splB b) from by unfold opR; rw [← HR1.out, ← HS1.out, ← HR2.out, ← HB.out, if_neg (by rw [HGG.out]; simp), if_neg HZ1.out, if_neg HZ2.out, if_pos h]))
        have HGY := Aside0.mk (fun (h : (frs (splB b)).length < b.length) => (show opS st s = layS s1 s (splB b) from by unfold opS; rw [← HR1.out, ← HS1.out, ← HR2.out, ← HB.out, if_neg (by rw [HGG.out]; simp), if_neg HZ1.out, if_neg HZ2.out, if_pos h]))
        have HLL := Aside0.mk (show opL st s = ⟨s, splB b, false⟩ from by unfold opL; rw [← HS1.out, ← HB.out])
        go_wp2_with fail
        refine (split_calls w3 A3 c3 b HC3.out hl3 hbl).mono ?_
        rintro e w4 ⟨v4, rfl, hn4, hb4⟩
        obtain ⟨A4, c4, rfl, hl4, hC4⟩ := Kd.N_reads hn4
        have hsz4 := HSZ.out
        have hlm : ((splB b).map numsL).length = (splB b).length := List.length_map _
        rw [hlm] at hl4 hn4
        have hbx := below_alloc (Below.refl w4.heap.size w4) (.cells #[.pointer (some ⟨p, 0, none⟩), .string s, .slice A4 (splB b).length c4, .bool false] 67)
        have HL5 := Aside0.mk (Lg.boxed (s := s) (p := p) hn4 hb4.size)
        have HS5 := Aside0.mk ((HS3.out.below hb4).below hbx)
        have hoff : Off A2 (fun k => w3.heap.size ≤ k) := fun k hk h => by have := (HS3.out.2.1 k hk).2; omega
        have HOF := Aside0.mk hoff
        have HT := Aside0.mk (lay_calls _ A2 (fun k => w3.heap.size ≤ k) w4.heap.size p ⟨s, splB b, false⟩ s1 A4 c4 (splB b) HL5.out HS5.out.1 hoff (HF1.out.less (spl_le b) (Nat.le_refl _)) (Kd.C_below hC4 hbx) hsz4.2 (Nat.le_trans (spl_le b) hsz4.1) hsz20)
        have hs3 := HS3.out.size
        obtain ⟨n5, hn5⟩ : ∃ n, n = (frs (splB b)).length := ⟨_, rfl⟩
        rw [← hn5] at HEN HGN HEY HGY ⊢
        clear hn4 hb4 hC4 hbx hoff hn5 hsz4 hlm
        by_cases hlt : n5 < b.length
        · have HEY1 := Aside0.mk (HEY.out hlt)
          have HGY1 := Aside0.mk (HGY.out hlt)
          clear HEN HGN HEY HGY
          go_wp2_with fail
          refine HT.out.mono ?_
          rintro e w6 ⟨rfl, A6, hS6⟩
          have HS6 := Aside0.mk hS6
          obtain ⟨r3, hr3⟩ : ∃ r, r = layR s1 s (splB b) := ⟨_, rfl⟩
          rw [← hr3] at HEY1 ⊢
          clear hS6 hr3 HT
          by_cases h3 : r3 = 0
          · have hb3 : (r3 != 0) = false := by rw [h3]; rfl
            have HE := Aside0.mk (HEY1.out.trans h3)
            clear h3 HEY1
            go_wp2
            go_ret2
            exact OpPost.yes (HS5.out.trans HS6.out) HGY1.out HE.out ((HL5.out.tight).step (fun k hk hlt => HS6.out.2.2.block k hlt (fun ha => HOF.out k ha hk.1))) HLL.out (fun k hk => Nat.le_trans hs3 hk.1) (fun k hk h2 => (HS6.out.2.1 k hk).1.elim (fun h3 => HOF.out k h3 h2.1) (fun h3 => by have := h2.2; omega))
          · have hb3 : (r3 != 0) = true := by rw [bne_iff_ne]; exact h3
            have HNZ := Aside0.mk h3
            clear h3
            go_wp2
            go_ret2
            exact OpPost.no (HS5.out.trans HS6.out) HGY1.out HEY1.out HNZ.out
        · have HE := Aside0.mk (HEN.out hlt)
          have HG := Aside0.mk (HGN.out hlt)
          clear HEN HGN HEY HGY HT
          go_wp2
          go_ret2
          exact OpPost.yes HS5.out HG.out HE.out HL5.out HLL.out (fun k hk => Nat.le_trans hs3 hk) HOF.out
      · have hb2 : (r2 != 0) = true := by rw [bne_iff_ne]; exact h2
        by_cases h23 : r2 = 3
        · have hb23 : (r2 != 3) = false := by rw [h23]; rfl
          have HZ2 := Aside0.mk (show ¬ goesB r2 = false from by rw [h23]; decide)
          clear h2 h23
          have HEN := Aside0.mk (fun (h : ¬ (frs (splB b)).length < b.length) => (show opR st s = 0 from by unfold opR; rw [← HR1.out, ← HS1.out, ← HR2.out, ← HB.out, if_neg (by rw [HGG.out]; simp), if_neg HZ1.out, if_neg HZ2.out, if_neg h]))
          have HGN := Aside0.mk (fun (h : ¬ (frs (splB b)).length < b.length) => (show opS st s = s1 from by unfold opS; rw [← HR1.out, ← HS1.out, ← HR2.out, ← HB.out, if_neg (by rw [HGG.out]; simp), if_neg HZ1.out, if_neg HZ2.out, if_neg h]))
          have HEY := Aside0.mk (fun (h : (frs (splB b)).length < b.length) => (show opR st s = layR s1 s (splB b) from by unfold opR; rw [← HR1.out, ← HS1.out, ← HR2.out, ← HB.out, if_neg (by rw [HGG.out]; simp), if_neg HZ1.out, if_neg HZ2.out, if_pos h]))
          have HGY := Aside0.mk (fun (h : (frs (splB b)).length < b.length) => (show opS st s = layS s1 s (splB b) from by unfold opS; rw [← HR1.out, ← HS1.out, ← HR2.out, ← HB.out, if_neg (by rw [HGG.out]; simp), if_neg HZ1.out, if_neg HZ2.out, if_pos h]))
          have HLL := Aside0.mk (show opL st s = ⟨s, splB b, false⟩ from by unfold opL; rw [← HS1.out, ← HB.out])
          go_wp2_with fail
          refine (split_calls w3 A3 c3 b HC3.out hl3 hbl).mono ?_
          rintro e w4 ⟨v4, rfl, hn4, hb4⟩
          obtain ⟨A4, c4, rfl, hl4, hC4⟩ := Kd.N_reads hn4
          have hsz4 := HSZ.out
          have hlm : ((splB b).map numsL).length = (splB b).length := List.length_map _
          rw [hlm] at hl4 hn4
          have hbx := below_alloc (Below.refl w4.heap.size w4) (.cells #[.pointer (some ⟨p, 0, none⟩), .string s, .slice A4 (splB b).length c4, .bool false] 67)
          have HL5 := Aside0.mk (Lg.boxed (s := s) (p := p) hn4 hb4.size)
          have HS5 := Aside0.mk ((HS3.out.below hb4).below hbx)
          have hoff : Off A2 (fun k => w3.heap.size ≤ k) := fun k hk h => by have := (HS3.out.2.1 k hk).2; omega
          have HOF := Aside0.mk hoff
          have HT := Aside0.mk (lay_calls _ A2 (fun k => w3.heap.size ≤ k) w4.heap.size p ⟨s, splB b, false⟩ s1 A4 c4 (splB b) HL5.out HS5.out.1 hoff (HF1.out.less (spl_le b) (Nat.le_refl _)) (Kd.C_below hC4 hbx) hsz4.2 (Nat.le_trans (spl_le b) hsz4.1) hsz20)
          have hs3 := HS3.out.size
          obtain ⟨n5, hn5⟩ : ∃ n, n = (frs (splB b)).length := ⟨_, rfl⟩
          rw [← hn5] at HEN HGN HEY HGY ⊢
          clear hn4 hb4 hC4 hbx hoff hn5 hsz4 hlm
          by_cases hlt : n5 < b.length
          · have HEY1 := Aside0.mk (HEY.out hlt)
            have HGY1 := Aside0.mk (HGY.out hlt)
            clear HEN HGN HEY HGY
            go_wp2_with fail
            refine HT.out.mono ?_
            rintro e w6 ⟨rfl, A6, hS6⟩
            have HS6 := Aside0.mk hS6
            obtain ⟨r3, hr3⟩ : ∃ r, r = layR s1 s (splB b) := ⟨_, rfl⟩
            rw [← hr3] at HEY1 ⊢
            clear hS6 hr3 HT
            by_cases h3 : r3 = 0
            · have hb3 : (r3 != 0) = false := by rw [h3]; rfl
              have HE := Aside0.mk (HEY1.out.trans h3)
              clear h3 HEY1
              go_wp2
              go_ret2
              exact OpPost.yes (HS5.out.trans HS6.out) HGY1.out HE.out ((HL5.out.tight).step (fun k hk hlt => HS6.out.2.2.block k hlt (fun ha => HOF.out k ha hk.1))) HLL.out (fun k hk => Nat.le_trans hs3 hk.1) (fun k hk h2 => (HS6.out.2.1 k hk).1.elim (fun h3 => HOF.out k h3 h2.1) (fun h3 => by have := h2.2; omega))
            · have hb3 : (r3 != 0) = true := by rw [bne_iff_ne]; exact h3
              have HNZ := Aside0.mk h3
              clear h3
              go_wp2
              go_ret2
              exact OpPost.no (HS5.out.trans HS6.out) HGY1.out HEY1.out HNZ.out
          · have HE := Aside0.mk (HEN.out hlt)
            have HG := Aside0.mk (HGN.out hlt)
            clear HEN HGN HEY HGY HT
            go_wp2
            go_ret2
            exact OpPost.yes HS5.out HG.out HE.out HL5.out HLL.out (fun k hk => Nat.le_trans hs3 hk) HOF.out
        · have hb23 : (r2 != 3) = true := by rw [bne_iff_ne]; exact h23
          have HNZ := Aside0.mk h2
          have HZ2 := Aside0.mk (show goesB r2 = false from by unfold goesB; rw [Bool.or_eq_false_iff, beq_eq_false_iff_ne, beq_eq_false_iff_ne]; exact ⟨h2, h23⟩)
          clear h2 h23
          have HE := Aside0.mk (show opR st s = r2 from by unfold opR; rw [← HR1.out, ← HS1.out, ← HR2.out, if_neg (by rw [HGG.out]; simp), if_neg HZ1.out, if_pos HZ2.out])
          have HG := Aside0.mk (show opS st s = s1 from by unfold opS; rw [← HR1.out, ← HS1.out, ← HR2.out, if_neg (by rw [HGG.out]; simp), if_neg HZ1.out, if_pos HZ2.out])
          go_wp2
          go_ret2
          exact OpPost.no HS3.out HG.out HE.out HNZ.out
    · have hb1 : (r1 != 0) = true := by rw [bne_iff_ne]; exact h1
      by_cases h13 : r1 = 3
      · have hb13 : (r1 != 3) = false := by rw [h13]; rfl
        have HZ1 := Aside0.mk (show ¬ goesB r1 = false from by rw [h13]; decide)
        clear h1 h13
        go_wp2_with fail
        refine (HRD.out w2 A2 HS2.out).mono ?_
        rintro e w3 ⟨v3, rfl, hR3, hb3⟩
        obtain ⟨A3, c3, rfl, hl3, hC3⟩ := RB_slice hR3
        have HC3 := Aside0.mk hC3
        have HS3 := Aside0.mk (HS2.out.below hb3)
        clear hR3 hC3 hb3 HRD
        by_cases h2 : r2 = 0
        · have hb2 : (r2 != 0) = false := by rw [h2]; rfl
          have HZ2 := Aside0.mk (show ¬ goesB r2 = false from by rw [h2]; decide)
          clear h2
          have HEN := Aside0.mk (fun (h : ¬ (frs (splB b)).length < b.length) => (show opR st s = 0 from by unfold opR; rw [← HR1.out, ← HS1.out, ← HR2.out, ← HB.out, if_neg (by rw [HGG.out]; simp), if_neg HZ1.out, if_neg HZ2.out, if_neg h]))
          have HGN := Aside0.mk (fun (h : ¬ (frs (splB b)).length < b.length) => (show opS st s = s1 from by unfold opS; rw [← HR1.out, ← HS1.out, ← HR2.out, ← HB.out, if_neg (by rw [HGG.out]; simp), if_neg HZ1.out, if_neg HZ2.out, if_neg h]))
          have HEY := Aside0.mk (fun (h : (frs (splB b)).length < b.length) => (show opR st s = layR s1 s (splB b) from by unfold opR; rw [← HR1.out, ← HS1.out, ← HR2.out, ← HB.out, if_neg (by rw [HGG.out]; simp), if_neg HZ1.out, if_neg HZ2.out, if_pos h]))
          have HGY := Aside0.mk (fun (h : (frs (splB b)).length < b.length) => (show opS st s = layS s1 s (splB b) from by unfold opS; rw [← HR1.out, ← HS1.out, ← HR2.out, ← HB.out, if_neg (by rw [HGG.out]; simp), if_neg HZ1.out, if_neg HZ2.out, if_pos h]))
          have HLL := Aside0.mk (show opL st s = ⟨s, splB b, false⟩ from by unfold opL; rw [← HS1.out, ← HB.out])
          go_wp2_with fail
          refine (split_calls w3 A3 c3 b HC3.out hl3 hbl).mono ?_
          rintro e w4 ⟨v4, rfl, hn4, hb4⟩
          obtain ⟨A4, c4, rfl, hl4, hC4⟩ := Kd.N_reads hn4
          have hsz4 := HSZ.out
          have hlm : ((splB b).map numsL).length = (splB b).length := List.length_map _
          rw [hlm] at hl4 hn4
          have hbx := below_alloc (Below.refl w4.heap.size w4) (.cells #[.pointer (some ⟨p, 0, none⟩), .string s, .slice A4 (splB b).length c4, .bool false] 67)
          have HL5 := Aside0.mk (Lg.boxed (s := s) (p := p) hn4 hb4.size)
          have HS5 := Aside0.mk ((HS3.out.below hb4).below hbx)
          have hoff : Off A2 (fun k => w3.heap.size ≤ k) := fun k hk h => by have := (HS3.out.2.1 k hk).2; omega
          have HOF := Aside0.mk hoff
          have HT := Aside0.mk (lay_calls _ A2 (fun k => w3.heap.size ≤ k) w4.heap.size p ⟨s, splB b, false⟩ s1 A4 c4 (splB b) HL5.out HS5.out.1 hoff (HF1.out.less (spl_le b) (Nat.le_refl _)) (Kd.C_below hC4 hbx) hsz4.2 (Nat.le_trans (spl_le b) hsz4.1) hsz20)
          have hs3 := HS3.out.size
          obtain ⟨n5, hn5⟩ : ∃ n, n = (frs (splB b)).length := ⟨_, rfl⟩
          rw [← hn5] at HEN HGN HEY HGY ⊢
          clear hn4 hb4 hC4 hbx hoff hn5 hsz4 hlm
          by_cases hlt : n5 < b.length
          · have HEY1 := Aside0.mk (HEY.out hlt)
            have HGY1 := Aside0.mk (HGY.out hlt)
            clear HEN HGN HEY HGY
            go_wp2_with fail
            refine HT.out.mono ?_
            rintro e w6 ⟨rfl, A6, hS6⟩
            have HS6 := Aside0.mk hS6
            obtain ⟨r3, hr3⟩ : ∃ r, r = layR s1 s (splB b) := ⟨_, rfl⟩
            rw [← hr3] at HEY1 ⊢
            clear hS6 hr3 HT
            by_cases h3 : r3 = 0
            · have hb3 : (r3 != 0) = false := by rw [h3]; rfl
              have HE := Aside0.mk (HEY1.out.trans h3)
              clear h3 HEY1
              go_wp2
              go_ret2
              exact OpPost.yes (HS5.out.trans HS6.out) HGY1.out HE.out ((HL5.out.tight).step (fun k hk hlt => HS6.out.2.2.block k hlt (fun ha => HOF.out k ha hk.1))) HLL.out (fun k hk => Nat.le_trans hs3 hk.1) (fun k hk h2 => (HS6.out.2.1 k hk).1.elim (fun h3 => HOF.out k h3 h2.1) (fun h3 => by have := h2.2; omega))
            · have hb3 : (r3 != 0) = true := by rw [bne_iff_ne]; exact h3
              have HNZ := Aside0.mk h3
              clear h3
              go_wp2
              go_ret2
              exact OpPost.no (HS5.out.trans HS6.out) HGY1.out HEY1.out HNZ.out
          · have HE := Aside0.mk (HEN.out hlt)
            have HG := Aside0.mk (HGN.out hlt)
            clear HEN HGN HEY HGY HT
            go_wp2
            go_ret2
            exact OpPost.yes HS5.out HG.out HE.out HL5.out HLL.out (fun k hk => Nat.le_trans hs3 hk) HOF.out
        · have hb2 : (r2 != 0) = true := by rw [bne_iff_ne]; exact h2
          by_cases h23 : r2 = 3
          · have hb23 : (r2 != 3) = false := by rw [h23]; rfl
            have HZ2 := Aside0.mk (show ¬ goesB r2 = false from by rw [h23]; decide)
            clear h2 h23
            have HEN := Aside0.mk (fun (h : ¬ (frs (splB b)).length < b.length) => (show opR st s = 0 from by unfold opR; rw [← HR1.out, ← HS1.out, ← HR2.out, ← HB.out, if_neg (by rw [HGG.out]; simp), if_neg HZ1.out, if_neg HZ2.out, if_neg h]))
            have HGN := Aside0.mk (fun (h : ¬ (frs (splB b)).length < b.length) => (show opS st s = s1 from by unfold opS; rw [← HR1.out, ← HS1.out, ← HR2.out, ← HB.out, if_neg (by rw [HGG.out]; simp), if_neg HZ1.out, if_neg HZ2.out, if_neg h]))
            have HEY := Aside0.mk (fun (h : (frs (splB b)).length < b.length) => (show opR st s = layR s1 s (splB b) from by unfold opR; rw [← HR1.out, ← HS1.out, ← HR2.out, ← HB.out, if_neg (by rw [HGG.out]; simp), if_neg HZ1.out, if_neg HZ2.out, if_pos h]))
            have HGY := Aside0.mk (fun (h : (frs (splB b)).length < b.length) => (show opS st s = layS s1 s (splB b) from by unfold opS; rw [← HR1.out, ← HS1.out, ← HR2.out, ← HB.out, if_neg (by rw [HGG.out]; simp), if_neg HZ1.out, if_neg HZ2.out, if_pos h]))
            have HLL := Aside0.mk (show opL st s = ⟨s, splB b, false⟩ from by unfold opL; rw [← HS1.out, ← HB.out])
            go_wp2_with fail
            refine (split_calls w3 A3 c3 b HC3.out hl3 hbl).mono ?_
            rintro e w4 ⟨v4, rfl, hn4, hb4⟩
            obtain ⟨A4, c4, rfl, hl4, hC4⟩ := Kd.N_reads hn4
            have hsz4 := HSZ.out
            have hlm : ((splB b).map numsL).length = (splB b).length := List.length_map _
            rw [hlm] at hl4 hn4
            have hbx := below_alloc (Below.refl w4.heap.size w4) (.cells #[.pointer (some ⟨p, 0, none⟩), .string s, .slice A4 (splB b).length c4, .bool false] 67)
            have HL5 := Aside0.mk (Lg.boxed (s := s) (p := p) hn4 hb4.size)
            have HS5 := Aside0.mk ((HS3.out.below hb4).below hbx)
            have hoff : Off A2 (fun k => w3.heap.size ≤ k) := fun k hk h => by have := (HS3.out.2.1 k hk).2; omega
            have HOF := Aside0.mk hoff
            have HT := Aside0.mk (lay_calls _ A2 (fun k => w3.heap.size ≤ k) w4.heap.size p ⟨s, splB b, false⟩ s1 A4 c4 (splB b) HL5.out HS5.out.1 hoff (HF1.out.less (spl_le b) (Nat.le_refl _)) (Kd.C_below hC4 hbx) hsz4.2 (Nat.le_trans (spl_le b) hsz4.1) hsz20)
            have hs3 := HS3.out.size
            obtain ⟨n5, hn5⟩ : ∃ n, n = (frs (splB b)).length := ⟨_, rfl⟩
            rw [← hn5] at HEN HGN HEY HGY ⊢
            clear hn4 hb4 hC4 hbx hoff hn5 hsz4 hlm
            by_cases hlt : n5 < b.length
            · have HEY1 := Aside0.mk (HEY.out hlt)
              have HGY1 := Aside0.mk (HGY.out hlt)
              clear HEN HGN HEY HGY
              go_wp2_with fail
              refine HT.out.mono ?_
              rintro e w6 ⟨rfl, A6, hS6⟩
              have HS6 := Aside0.mk hS6
              obtain ⟨r3, hr3⟩ : ∃ r, r = layR s1 s (splB b) := ⟨_, rfl⟩
              rw [← hr3] at HEY1 ⊢
              clear hS6 hr3 HT
              by_cases h3 : r3 = 0
              · have hb3 : (r3 != 0) = false := by rw [h3]; rfl
                have HE := Aside0.mk (HEY1.out.trans h3)
                clear h3 HEY1
                go_wp2
                go_ret2
                exact OpPost.yes (HS5.out.trans HS6.out) HGY1.out HE.out ((HL5.out.tight).step (fun k hk hlt => HS6.out.2.2.block k hlt (fun ha => HOF.out k ha hk.1))) HLL.out (fun k hk => Nat.le_trans hs3 hk.1) (fun k hk h2 => (HS6.out.2.1 k hk).1.elim (fun h3 => HOF.out k h3 h2.1) (fun h3 => by have := h2.2; omega))
              · have hb3 : (r3 != 0) = true := by rw [bne_iff_ne]; exact h3
                have HNZ := Aside0.mk h3
                clear h3
                go_wp2
                go_ret2
                exact OpPost.no (HS5.out.trans HS6.out) HGY1.out HEY1.out HNZ.out
            · have HE := Aside0.mk (HEN.out hlt)
              have HG := Aside0.mk (HGN.out hlt)
              clear HEN HGN HEY HGY HT
              go_wp2
              go_ret2
              exact OpPost.yes HS5.out HG.out HE.out HL5.out HLL.out (fun k hk => Nat.le_trans hs3 hk) HOF.out
          · have hb23 : (r2 != 3) = true := by rw [bne_iff_ne]; exact h23
            have HNZ := Aside0.mk h2
            have HZ2 := Aside0.mk (show goesB r2 = false from by unfold goesB; rw [Bool.or_eq_false_iff, beq_eq_false_iff_ne, beq_eq_false_iff_ne]; exact ⟨h2, h23⟩)
            clear h2 h23
            have HE := Aside0.mk (show opR st s = r2 from by unfold opR; rw [← HR1.out, ← HS1.out, ← HR2.out, if_neg (by rw [HGG.out]; simp), if_neg HZ1.out, if_pos HZ2.out])
            have HG := Aside0.mk (show opS st s = s1 from by unfold opS; rw [← HR1.out, ← HS1.out, ← HR2.out, if_neg (by rw [HGG.out]; simp), if_neg HZ1.out, if_pos HZ2.out])
            go_wp2
            go_ret2
            exact OpPost.no HS3.out HG.out HE.out HNZ.out
      · have hb13 : (r1 != 3) = true := by rw [bne_iff_ne]; exact h13
        have HNZ := Aside0.mk h1
        have HZ1 := Aside0.mk (show goesB r1 = false from by unfold goesB; rw [Bool.or_eq_false_iff, beq_eq_false_iff_ne, beq_eq_false_iff_ne]; exact ⟨h1, h13⟩)
        clear h1 h13
        have HE := Aside0.mk (show opR st s = r1 from by unfold opR; rw [← HR1.out, ← HS1.out, if_neg (by rw [HGG.out]; simp), if_pos HZ1.out])
        have HG := Aside0.mk (show opS st s = s1 from by unfold opS; rw [← HR1.out, ← HS1.out, if_neg (by rw [HGG.out]; simp), if_pos HZ1.out])
        go_wp2
        go_ret2
        exact OpPost.no HS2.out HG.out HE.out HNZ.out
end Go.Proofs.Ytipclnniaenciaa.Hand
