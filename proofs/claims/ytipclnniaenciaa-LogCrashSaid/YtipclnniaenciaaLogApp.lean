/- Append: one record more, over memory. -/
import Derived.Test.YtipclnniaenciaaLogLay
namespace Go.Proofs.Ytipclnniaenciaa.Hand
open Go.RowKit Go.Maps Go.Proofs.YtipclnniaenciaaW.PrintWords Go.Proofs.YtipclnniaenciaaW.PrintLast Go.Proofs.YtipclnniaenciaaW.PrintMore
set_option linter.unusedVariables false
set_option linter.unusedSimpArgs false
/-- Behind a step from w: the disk in A', which is A's and new, the log in B', which is B's and new; nothing else has turned. -/
def Both (w : World) (A B : Nat → Prop) (q p : Nat) (w' : World) (A' B' : Nat → Prop) (l : LSt) (st : DSt) : Prop :=
  Dsk w' A' p st ∧ Lg w' B' q p l ∧ Grew A A' w w' ∧ Grew B B' w w' ∧ Off A' B' ∧ Chg (fun k => A k ∨ B k) w w'
section
variable {w w' w2 : World} {A B A' B' S : Nat → Prop} {q p : Nat} {l l' : LSt} {st st' : DSt}
theorem Both.same (hD : Dsk w A p st) (hL : Lg w B q p l) (ho : Off A B) (hb : Below w.heap.size w w') : ∃ A' B', Both w A B q p w' A' B' l st :=
  ⟨_, _, (hD.tight).below hb, (hL.tight).below hb, fun k hk => ⟨.inl hk.1, Nat.lt_of_lt_of_le hk.2 hb.size⟩, fun k hk => ⟨.inl hk.1, Nat.lt_of_lt_of_le hk.2 hb.size⟩, fun k hk h2 => ho k hk.1 h2.1, Chg.of_below hb _⟩
theorem Sp.both (h : Sp w A p w' A' st) (hL : Lg w B q p l) (ho : Off A B) : Both w A B q p w' A' (fun k => B k ∧ k < w.heap.size) l st :=
  ⟨h.1, (hL.tight).step (fun k hk hlt => h.2.2.block k hlt (fun ha => ho k ha hk.1)), h.2.1, fun k hk => ⟨.inl hk.1, Nat.lt_of_lt_of_le hk.2 h.2.2.size⟩, fun k hk h2 => (h.2.1 k hk).1.elim (fun h3 => ho k h3 h2.1) (fun h3 => by have := h2.2; omega), h.2.2.mono (fun k hk => .inl (.inl hk))⟩
/-- The log alone has turned. -/
theorem Both.log (h : Both w A B q p w' A' B' l st) (hL : Lg w2 (fun k => B' k ∨ w'.heap.size ≤ k) q p l') (hc : Chg B' w' w2) : ∃ A2 B2, Both w A B q p w2 A2 B2 l' st := by
  obtain ⟨h1, h2, h3, h4, h5, h6⟩ := h
  obtain ⟨B2, g1, g2⟩ := hL.grew
  refine ⟨_, B2, (h1.tight).chg hc (fun k hk _ hb => h5 k hk.1 hb), g1, fun k hk => ⟨(h3 k hk.1).1, Nat.lt_of_lt_of_le hk.2 hc.size⟩, h4.trans g2 h6.size, fun k hk hb => (g2 k hb).1.elim (fun g3 => h5 k hk.1 g3) (fun g3 => by have := hk.2; omega), h6.then_ hc (fun k hk => (h4 k hk).1.elim (fun g => .inl (.inr g)) .inr)⟩
theorem Both.told (h : Both w A B q p w' A' B' l st) (e : Int) :
    Calls Try.prog 37 #[.pointer (some ⟨q, 0, none⟩), .int .i64 e] w' fun r w2 => r = .returned (.int .i64 e) ∧ ∃ A2 B2, Both w A B q p w2 A2 B2 (toldS l e) st :=
  (told_calls w' B' q p l e h.2.1).mono fun r w2 ⟨h1, h2, h3⟩ => ⟨h1, h.log (h2.mono fun k hk => .inl hk) (h3.mono fun k hk => .inl (by obtain ⟨_, _, _, hB⟩ := h.2.1; rw [hk]; exact hB))⟩
end
theorem infoSl : (Try.prog.info? 22).map (fun i => (i.zero, i.size, i.bytes)) = some (some (.slice none 0 0), 1, 24) := by kernel_rfl
/-- A row of one record, made just now. -/
theorem one_row {w : World} {Ab : Option Addr} {b : By} {c : Nat} (hC : CB w Ab b) (hl : b.length ≤ c) (t : TypeId) : CR (w.alloc (.cells #[.slice Ab b.length c] t)) (some ⟨w.heap.size, 0, none⟩) [b] := by
  refine ⟨rfl, (show 1 ≤ 9223372036854775807 by decide), fun _ => ⟨_, rfl, fun j x hj => ?_⟩⟩
  cases j with
  | zero =>
    injection hj with hj
    refine ⟨[.slice Ab b.length c], rfl, ⟨Ab, c, by rw [← hj, nums_len], by rw [← hj, nums_len]; exact hl, by rw [← hj]; exact Kd.C_alloc hC _⟩, fun i u hu => ?_⟩
    cases i with
    | zero =>
      injection hu with hu
      rw [← hu]
      exact (blk_cell (blk_new w _) 0).trans rfl
    | succ i => cases hu
  | succ j => cases hj
set_option maxRecDepth 100000 in
set_option maxHeartbeats 16000000 in
theorem lapp_calls (w : World) (A B : Nat → Prop) (q p : Nat) (l : LSt) (st : DSt) (Ab : Option Addr) (c : Nat) (b : By) (hL : Lg w B q p l) (hD : Dsk w A p st) (hoff : Off A B) (hfit : bigB [b] = false → st.Fit (b.length + 8) 1) (hCW : ∀ w', Chg (fun k => A k ∨ B k) w w' → CB w' Ab b) (hlc : b.length ≤ c) (hsz : b.length ≤ 1000000000) (hnm : l.name.size ≤ 20) (hrl : l.recs.length ≤ 100000000) :
    Calls Try.prog 18 #[.pointer (some ⟨q, 0, none⟩), .slice Ab b.length c] w fun e w' => e = .returned (.int .i64 (lappR l st b)) ∧ ∃ A' B', Both w A B q p w' A' B' (lappL l st b) (lappS l st b) := by
  have hL0 := id hL
  have hC := hCW w (Chg.refl _ _)
  have HCW := Aside0.mk hCW
  obtain ⟨vr, hq, hnb, hBq⟩ := hL
  have hAq : ¬ A q := fun h => hoff q h hBq
  have hql := blk_lt hq
  have HQ := Aside0.mk hq
  have HA := Aside0.mk hAq
  have HL := Aside0.mk hL0
  have HNB := Aside0.mk (Kd.N_bound hnb)
  have HBQ := Aside0.mk hBq
  have HF := Aside0.mk hfit
  have HC := Aside0.mk hC
  have HO := Aside0.mk hoff
  have hba := below_alloc (Below.refl w.heap.size w) (.cells #[.slice Ab b.length c] 22)
  have HM := Aside0.mk (may_calls (w.alloc (.cells #[.slice Ab b.length c] 22)) B q p l (some ⟨w.heap.size, 0, none⟩) 1 [b] (hL0.below hba) (one_row hC hlc _) (show 1 ≤ 1000000000 by decide))
  have HS0 := Aside0.mk ((Sp.of hD).below hba)
  have HFR := Aside0.mk (fun W (hb : Below w.heap.size w W) => frame_calls W Ab c b (Kd.C_below hC hb) hlc (by omega))
  have HCL := Aside0.mk (fun W (hb : Below w.heap.size w W) => clone_calls W Ab b.length c b (Kd.C_below hC hb) rfl (by omega))
  have HBA := Aside0.mk hba
  have hba1 := hba.size
  have HD := Aside0.mk hD
  have hfl := frB_len b
  have HFL := Aside0.mk hfl
  have HBG := Aside0.mk (show mayR l [b] = 0 → bigB [b] = false from by
    intro h
    unfold mayR at h
    split at h
    · cases h
    · rename_i hb
      exact Bool.eq_false_iff.2 hb)
  clear hq hnb hBq hAq hL0 hfit hC hCW hoff hD hba hfl
  go_enter Try.func18, Try.ntmps18
  go_wp2_with fail
  refine HM.out.mono ?_
  rintro e w1 ⟨rfl, hw1⟩
  rw [← hw1] at HS0 HBA hba1
  clear hw1 HM
  obtain ⟨m, hm⟩ : ∃ m, m = mayR l [b] := ⟨_, rfl⟩
  rw [← hm] at HBG ⊢
  have HMM := Aside0.mk hm
  clear hm
  by_cases h0 : m = 0
  · have HZ := Aside0.mk h0
    have HFF := Aside0.mk (HF.out (HBG.out h0))
    have hb0 : (m != 0) = false := by rw [h0]; rfl
    clear h0 HBG HF
    have hq1 : w1.heap[q]? = _ := HS0.out.blk HQ.out HA.out
    have hz10 : w1.cell? ⟨q, 0, none⟩ = some (.pointer (some ⟨p, 0, none⟩)) := (blk_cell hq1 0).trans rfl
    have hz11 : w1.cell? ⟨q, 1, none⟩ = some (.string l.name) := (blk_cell hq1 1).trans rfl
    clear hq1
    have HT := Aside0.mk (HFR.out w1.drew (HBA.out.trans (below_drew (Below.refl _ _))))
    go_wp2
    refine start_ (n := 12) (S := fun w' => w'.cell? ⟨q, 0, none⟩ = some (.pointer (some ⟨p, 0, none⟩)) ∧ w'.cell? ⟨q, 1, none⟩ = some (.string l.name)) (ds := []) #[false, false, false, false, false, false, false, false, false, false, false, false] (by kernel_rfl) rfl rfl ⟨hz10, hz11⟩ (fun hHeld => ?_)
    refine pure_ (i := 0) (N := some 15) (v := ?_) (a' := ?_) #[true, false, false, false, false, false, false, false, false, false, false, false] rfl rfl (by kernel_rfl) (fun _ _ _ h => h) (Or.inl ⟨by rfl, ?_⟩) ?_ ?_
    rotate_left
    · intro w'
      go_simp
      with_reducible rfl
    rotate_left
    · simp only [Act.put, List.setIfInBounds_toArray, List.set_cons_zero, List.set_cons_succ, i64_w, i32_w]
      rfl
    refine pure_ (i := 1) (N := some 16) (v := ?_) (a' := ?_) #[true, true, false, false, false, false, false, false, false, false, false, false] rfl rfl (by kernel_rfl) (fun _ _ _ h => h) (Or.inl ⟨by rfl, ?_⟩) ?_ ?_
    rotate_left
    · intro w'
      go_simp
      with_reducible rfl
    rotate_left
    · simp only [Act.put, List.setIfInBounds_toArray, List.set_cons_zero, List.set_cons_succ, i64_w, i32_w]
      rfl
    refine pure_ (i := 2) (N := some 17) (v := ?_) (a' := ?_) #[true, true, true, false, false, false, false, false, false, false, false, false] rfl rfl (by kernel_rfl) (fun _ _ _ h => h) (Or.inl ⟨by rfl, ?_⟩) ?_ ?_
    rotate_left
    · intro w'
      go_simp
      with_reducible rfl
    rotate_left
    · simp only [Act.put, List.setIfInBounds_toArray, List.set_cons_zero, List.set_cons_succ, i64_w, i32_w]
      rfl
    refine pure_ (i := 4) (N := some 19) (v := ?_) (a' := ?_) #[true, true, true, false, true, false, false, false, false, false, false, false] rfl rfl (by kernel_rfl) (fun _ _ _ h => h) (Or.inl ⟨by rfl, ?_⟩) ?_ ?_
    rotate_left
    · intro w'
      go_simp
      with_reducible rfl
    rotate_left
    · simp only [Act.put, List.setIfInBounds_toArray, List.set_cons_zero, List.set_cons_succ, i64_w, i32_w]
      rfl
    refine pure_ (i := 5) (N := some 20) (v := ?_) (a' := ?_) #[true, true, true, false, true, true, false, false, false, false, false, false] rfl rfl (by kernel_rfl) (fun _ _ _ h => h) (Or.inl ⟨by rfl, ?_⟩) ?_ ?_
    rotate_left
    · intro w'
      go_simp
      with_reducible rfl
    rotate_left
    · simp only [Act.put, List.setIfInBounds_toArray, List.set_cons_zero, List.set_cons_succ, i64_w, i32_w]
      rfl
    refine pure_ (i := 6) (N := some 21) (v := ?_) (a' := ?_) #[true, true, true, false, true, true, true, false, false, false, false, false] rfl rfl (by kernel_rfl) (fun _ _ _ h => h) (Or.inl ⟨by rfl, ?_⟩) ?_ ?_
    rotate_left
    · intro w'
      go_simp
      with_reducible rfl
    rotate_left
    · simp only [Act.put, List.setIfInBounds_toArray, List.set_cons_zero, List.set_cons_succ, i64_w, i32_w]
      rfl
    refine pure_ (i := 8) (N := some 23) (v := ?_) (a' := ?_) #[true, true, true, false, true, true, true, false, true, false, false, false] rfl rfl (by kernel_rfl) (fun _ _ _ h => h) (Or.inl ⟨by rfl, ?_⟩) ?_ ?_
    rotate_left
    · intro w'
      go_simp
      with_reducible rfl
    rotate_left
    · simp only [Act.put, List.setIfInBounds_toArray, List.set_cons_zero, List.set_cons_succ, i64_w, i32_w]
      rfl
    refine take_ (i := 3) (N := some 18) (v := ?_) (a' := ?_) #[true, true, true, true, true, true, true, false, true, false, false, false] rfl rfl (by kernel_rfl) (fun _ _ _ h => h) (Or.inl ⟨by rfl, ?_⟩) hHeld ?_ ?_
    rotate_left
    · rintro w' ⟨s0, s1⟩
      go_simp
      with_reducible rfl
    rotate_left
    · simp only [Act.put, List.setIfInBounds_toArray, List.set_cons_zero, List.set_cons_succ, i64_w, i32_w]
      rfl
    refine take_ (i := 7) (N := some 22) (v := ?_) (a' := ?_) #[true, true, true, true, true, true, true, true, true, false, false, false] rfl rfl (by kernel_rfl) (fun _ _ _ h => h) (Or.inl ⟨by rfl, ?_⟩) hHeld ?_ ?_
    rotate_left
    · rintro w' ⟨s0, s1⟩
      go_simp
      with_reducible rfl
    rotate_left
    · simp only [Act.put, List.setIfInBounds_toArray, List.set_cons_zero, List.set_cons_succ, i64_w, i32_w]
      rfl
    refine one_ (i := 9) (N := some 24) #[true, true, true, true, true, true, true, true, true, true, false, false] rfl rfl (by kernel_rfl) (by decide) (fun K hK => ?_)
    refine goes_ Try.func36 (by kernel_rfl) rfl #[.slice Ab b.length c] (by rfl) rfl rfl (by simp only [List.map_toArray, List.map_cons, List.map_nil]; rfl) ?_
    with_reducible refine (HT.out).mono ?_
    rintro e w2 ⟨v2, rfl, hR2, hb2⟩
    refine ⟨_, rfl, ?_⟩
    obtain ⟨A2, c2, rfl, hl2, hC2⟩ := RB_slice hR2
    have HS2 := Aside0.mk ((HS0.out.below (below_drew (Below.refl _ _))).below hb2)
    have HT2 := Aside0.mk (HS2.out.app HFF.out.ok l.name (by unfold maxLen; omega) A2 c2 (frB b) hC2 (by rw [HFL.out]; unfold maxB; omega))
    clear hR2 hb2 hC2
    refine hK.out _ _ ⟨(blk_cell (HS2.out.blk HQ.out HA.out) 0).trans rfl, (blk_cell (HS2.out.blk HQ.out HA.out) 1).trans rfl⟩ (fun hHeld => ?_)
    clear hK K
    refine norm_ (a' := ?_) ?_ ?_
    rotate_left
    · show Act.put _ (some 24) _ = _
      simp only [Act.put, List.setIfInBounds_toArray, List.set_cons_zero, List.set_cons_succ, i64_w, i32_w]
      rfl
    refine one_ (i := 10) (N := some 25) #[true, true, true, true, true, true, true, true, true, true, true, false] rfl rfl (by kernel_rfl) (by decide) (fun K hK => ?_)
    refine goes_ Try.func10 (by kernel_rfl) rfl #[.pointer (some ⟨p, 0, none⟩), .string l.name, .slice A2 (frB b).length c2] (by rfl) rfl rfl (by simp only [List.map_toArray, List.map_cons, List.map_nil]; rfl) ?_
    with_reducible refine (HT2.out).mono ?_
    rintro e w3 ⟨rfl, A3, hS3⟩
    refine ⟨_, rfl, ?_⟩
    have HS3 := Aside0.mk hS3
    clear hS3
    refine hK.out _ _ ⟨(blk_cell (HS3.out.blk HQ.out HA.out) 0).trans rfl, (blk_cell (HS3.out.blk HQ.out HA.out) 1).trans rfl⟩ (fun hHeld => ?_)
    clear hK K
    refine norm_ (a' := ?_) ?_ ?_
    rotate_left
    · show Act.put _ (some 25) _ = _
      simp only [Act.put, List.setIfInBounds_toArray, List.set_cons_zero, List.set_cons_succ, i64_w, i32_w]
      rfl
    refine pure_ (i := 11) (N := some 6) (v := ?_) (a' := ?_) #[true, true, true, true, true, true, true, true, true, true, true, true] rfl rfl (by kernel_rfl) (fun _ _ _ h => h) (Or.inl ⟨by rfl, ?_⟩) ?_ ?_
    rotate_left
    · intro w'
      go_simp
      with_reducible rfl
    rotate_left
    · simp only [Act.put, List.setIfInBounds_toArray, List.set_cons_zero, List.set_cons_succ, i64_w, i32_w]
      rfl
    refine done_ (by kernel_rfl) ?_
    clear hz10 hz11 HT HT2
    obtain ⟨r1, hr1⟩ : ∃ r, r = appendR st l.name (frB b).length := ⟨_, rfl⟩
    rw [← hr1]
    have HR1 := Aside0.mk hr1
    clear hr1
    by_cases h1 : r1 = 0
    · have HZ1 := Aside0.mk h1
      have hb1 : (r1 != 0) = false := by rw [h1]; rfl
      clear h1
      have HF1 := Aside0.mk (DSt.Fit.append (s := l.name) (b := frB b) (n := 0) (m := 0) (HFF.out.less (by rw [HFL.out]; omega) (by omega)))
      have HT := Aside0.mk (HS3.out.syn HF1.out.ok)
      have hq3 : w3.heap[q]? = _ := HS3.out.blk HQ.out HA.out
      have hz30 : w3.cell? ⟨q, 0, none⟩ = some (.pointer (some ⟨p, 0, none⟩)) := (blk_cell hq3 0).trans rfl
      clear hq3
      go_wp2_with fail
      refine HT.out.mono ?_
      rintro e w4 ⟨rfl, A4, hS4⟩
      have HS4 := Aside0.mk hS4
      clear hS4 hz30 HT
      obtain ⟨r2, hr2⟩ : ∃ r, r = doneR (appendS st l.name (frB b)) := ⟨_, rfl⟩
      rw [← hr2]
      have HR2 := Aside0.mk hr2
      clear hr2
      have HB4 := Aside0.mk (HS4.out.both HL.out HO.out)
      by_cases h2 : r2 = 0
      · have HZ2 := Aside0.mk h2
        have hb2 : (r2 != 0) = false := by rw [h2]; rfl
        clear h2
        have HE := Aside0.mk (show lappR l st b = 0 from by unfold lappR; rw [if_neg (by rw [← HMM.out]; exact fun h => h HZ.out), if_neg (by rw [← HR1.out]; exact fun h => h HZ1.out)]; exact HR2.out.symm.trans HZ2.out)
        have HG := Aside0.mk (show lappS l st b = syncS (appendS st l.name (frB b)) from by unfold lappS; rw [if_neg (by rw [← HMM.out]; exact fun h => h HZ.out), if_neg (by rw [← HR1.out]; exact fun h => h HZ1.out)])
        have HH := Aside0.mk (show lappL l st b = { l with recs := l.recs ++ [b] } from by unfold lappL; rw [if_neg (by rw [← HMM.out]; exact fun h => h HZ.out), if_neg (by rw [← HR1.out]; exact fun h => h HZ1.out), if_neg (by rw [← HR2.out]; exact fun h => h HZ2.out)])
        have hq4 : w4.heap[q]? = _ := HS4.out.blk HQ.out HA.out
        have hz42 : w4.cell? ⟨q, 2, none⟩ = some vr := (blk_cell hq4 2).trans rfl
        have HQ4 := Aside0.mk hq4
        have HN4 := Aside0.mk (Kd.N_step HNB.out (fun k hk hlt => HS4.out.2.2.block k hlt (fun ha => HO.out k ha hk.1.1)))
        have hne : ∀ k, vr.ownBlock = some k → (B k ∧ k ≠ q) ∧ k < w.heap.size := HNB.out.1
        have HNE := Aside0.mk hne
        have hs4 := HS4.out.2.2.size
        have hs4' := hs4
        clear hq4 hne hs4'
        have HT := Aside0.mk (clone_calls w4.drew Ab b.length c b (HCW.out _ ((HS4.out.2.2.mono (fun k hk => .inl (.inl hk))).drew)) rfl (by omega))
        go_wp2
        refine start_ (n := 12) (S := fun w' => w'.cell? ⟨q, 2, none⟩ = some vr) (ds := [11]) #[false, false, false, false, false, false, false, false, false, false, false, false] (by kernel_rfl) rfl rfl (hz42) (fun hHeld => ?_)
        refine pure_ (i := 0) (N := some 41) (v := ?_) (a' := ?_) #[true, false, false, false, false, false, false, false, false, false, false, false] rfl rfl (by kernel_rfl) (fun _ _ _ h => h) (Or.inl ⟨by rfl, ?_⟩) ?_ ?_
        rotate_left
        · intro w'
          go_simp
          with_reducible rfl
        rotate_left
        · simp only [Act.put, List.setIfInBounds_toArray, List.set_cons_zero, List.set_cons_succ, i64_w, i32_w]
          rfl
        refine pure_ (i := 1) (N := some 42) (v := ?_) (a' := ?_) #[true, true, false, false, false, false, false, false, false, false, false, false] rfl rfl (by kernel_rfl) (fun _ _ _ h => h) (Or.inl ⟨by rfl, ?_⟩) ?_ ?_
        rotate_left
        · intro w'
          go_simp
          with_reducible rfl
        rotate_left
        · simp only [Act.put, List.setIfInBounds_toArray, List.set_cons_zero, List.set_cons_succ, i64_w, i32_w]
          rfl
        refine pure_ (i := 2) (N := some 43) (v := ?_) (a' := ?_) #[true, true, true, false, false, false, false, false, false, false, false, false] rfl rfl (by kernel_rfl) (fun _ _ _ h => h) (Or.inl ⟨by rfl, ?_⟩) ?_ ?_
        rotate_left
        · intro w'
          go_simp
          with_reducible rfl
        rotate_left
        · simp only [Act.put, List.setIfInBounds_toArray, List.set_cons_zero, List.set_cons_succ, i64_w, i32_w]
          rfl
        refine pure_ (i := 3) (N := some 44) (v := ?_) (a' := ?_) #[true, true, true, true, false, false, false, false, false, false, false, false] rfl rfl (by kernel_rfl) (fun _ _ _ h => h) (Or.inl ⟨by rfl, ?_⟩) ?_ ?_
        rotate_left
        · intro w'
          go_simp
          with_reducible rfl
        rotate_left
        · simp only [Act.put, List.setIfInBounds_toArray, List.set_cons_zero, List.set_cons_succ, i64_w, i32_w]
          rfl
        refine pure_ (i := 5) (N := some 46) (v := ?_) (a' := ?_) #[true, true, true, true, false, true, false, false, false, false, false, false] rfl rfl (by kernel_rfl) (fun _ _ _ h => h) (Or.inl ⟨by rfl, ?_⟩) ?_ ?_
        rotate_left
        · intro w'
          go_simp
          with_reducible rfl
        rotate_left
        · simp only [Act.put, List.setIfInBounds_toArray, List.set_cons_zero, List.set_cons_succ, i64_w, i32_w]
          rfl
        refine take_ (i := 4) (N := some 45) (v := ?_) (a' := ?_) #[true, true, true, true, true, true, false, false, false, false, false, false] rfl rfl (by kernel_rfl) (fun _ _ _ h => h) (Or.inl ⟨by rfl, ?_⟩) hHeld ?_ ?_
        rotate_left
        · intro w' s0
          go_simp
          with_reducible rfl
        rotate_left
        · simp only [Act.put, List.setIfInBounds_toArray, List.set_cons_zero, List.set_cons_succ, i64_w, i32_w]
          rfl
        refine one_ (i := 6) (N := some 47) #[true, true, true, true, true, true, true, false, false, false, false, false] rfl rfl (by kernel_rfl) (by decide) (fun K hK => ?_)
        refine goes_ Try.func27 (by kernel_rfl) rfl #[.slice Ab b.length c] (by rfl) rfl rfl (by simp only [List.map_toArray, List.map_cons, List.map_nil]; rfl) ?_
        with_reducible refine (HT.out).mono ?_
        rintro e w6 ⟨v6, rfl, hR6, hb6⟩
        refine ⟨_, rfl, ?_⟩
        obtain ⟨A6, n6, c6, rfl⟩ : ∃ A n c, v6 = .slice A n c := by obtain ⟨A, c, e, _⟩ := RB_slice hR6; exact ⟨A, _, c, e⟩
        have hb46 := (below_drew (Below.refl w4.heap.size w4)).trans hb6
        have hq6 : w6.heap[q]? = _ := (hb46.block q (Nat.lt_of_lt_of_le hql hs4)).trans HQ4.out
        have HQ6 := Aside0.mk hq6
        have HN6 := Aside0.mk (Kd.N_below HN4.out hb46)
        have HR6 := Aside0.mk hR6
        have HB6 := Aside0.mk hb46
        have hs6 := hb46.size
        clear hR6 hb6 hb46 hq6
        refine hK.out _ _ ((blk_cell HQ6.out 2).trans rfl) (fun hHeld => ?_)
        clear hK K
        refine norm_ (a' := ?_) ?_ ?_
        rotate_left
        · show Act.put _ (some 47) _ = _
          simp only [Act.put, List.setIfInBounds_toArray, List.set_cons_zero, List.set_cons_succ, i64_w, i32_w]
          rfl
        refine one_ (i := 7) (N := some 48) #[true, true, true, true, true, true, true, true, false, false, false, false] rfl rfl (by kernel_rfl) (by decide) (fun K hK => ?_)
        refine value_ (w1 := ?_) (v := ?_) (by rfl) rfl ?_ ?_
        rotate_left 2
        · go_simp
          constructor
          · rfl
          · rfl
        refine hK.out _ _ ((blk_cell (blk_alloc HQ6.out _) 2).trans rfl) (fun hHeld => ?_)
        clear hK K
        refine norm_ (a' := ?_) ?_ ?_
        rotate_left
        · show Act.put _ (some 48) _ = _
          simp only [Act.put, List.setIfInBounds_toArray, List.set_cons_zero, List.set_cons_succ, i64_w, i32_w]
          rfl
        refine one_ (i := 8) (N := some 49) #[true, true, true, true, true, true, true, true, true, false, false, false] rfl rfl (by kernel_rfl) (by decide) (fun K hK => ?_)
        refine Kd.N_append_step (Kd.slice 5 (Kd.int .u8)) (w0 := w6) (W := w6) 0 (by rfl) (.tmp 45) (.tmp 48) 32 22 (.slice none 0 0) 24 rfl Try.underlying32 infoSl rfl (by decide) (by omega) vr (l.recs.map numsL) (numsL b) [.slice A6 n6 c6] (fun k => ((B k ∧ k ≠ q) ∧ k < w.heap.size) ∨ w4.heap.size ≤ k) (fun k => w4.heap.size ≤ k) rfl rfl ?aM ?aK ?aF ?aO ?aB ?aS ?aL ?_
        (case aM => exact Kd.FK_of_M (Kd.M_row HR6.out))
        (case aK => exact fun k hk => ⟨.inr hk, fun he => by have := (HNE.out k he.symm).2; omega⟩)
        (case aF => exact fun k hk => .inr (Nat.le_trans hs6 hk))
        (case aO => exact Kd.N_mono HN6.out (fun k hk => .inl hk))
        (case aB => exact Below.refl _ _)
        (case aS => exact Nat.zero_le _)
        (case aL => rw [List.length_map]; omega)
        intro v8 w8 ho8 hb8 hg8 hat8
        obtain ⟨A8, n8, c8, rfl⟩ : ∃ A n c, v8 = .slice A n c := by obtain ⟨A, c, e⟩ := Kd.N_slice ho8; exact ⟨A, _, c, e⟩
        have hq8 : w8.heap[q]? = _ := blk_grown (w := w6) HQ6.out hg8 (fun he => (HNE.out q (by first | exact he | exact he.symm)).1.2 rfl)
        have HQ8 := Aside0.mk hq8
        have HO8 := Aside0.mk ho8
        have HG8 := Aside0.mk hg8
        have hf82 := blk_frozen hq8 2
        have hz82 : w8.cell? ⟨q, 2, none⟩ = some vr := (blk_cell hq8 2).trans rfl
        clear ho8 hb8 hg8 hat8 hq8
        refine hK.out _ _ ((blk_cell HQ8.out 2).trans rfl) (fun hHeld => ?_)
        clear hK K
        refine norm_ (a' := ?_) ?_ ?_
        rotate_left
        · show Act.put _ (some 49) _ = _
          simp only [Act.put, List.setIfInBounds_toArray, List.set_cons_zero, List.set_cons_succ, i64_w, i32_w]
          rfl
        refine pure_ (i := 9) (N := some 50) (v := ?_) (a' := ?_) #[true, true, true, true, true, true, true, true, true, true, false, false] rfl rfl (by kernel_rfl) (fun _ _ _ h => h) (Or.inl ⟨by rfl, ?_⟩) ?_ ?_
        rotate_left
        · intro w'
          go_simp
          with_reducible rfl
        rotate_left
        · simp only [Act.put, List.setIfInBounds_toArray, List.set_cons_zero, List.set_cons_succ, i64_w, i32_w]
          rfl
        refine pure_ (i := 10) (N := some 51) (v := ?_) (a' := ?_) #[true, true, true, true, true, true, true, true, true, true, true, false] rfl rfl (by kernel_rfl) (fun _ _ _ h => h) (Or.inl ⟨by rfl, ?_⟩) ?_ ?_
        rotate_left
        · intro w'
          go_simp
          with_reducible rfl
        rotate_left
        · simp only [Act.put, List.setIfInBounds_toArray, List.set_cons_zero, List.set_cons_succ, i64_w, i32_w]
          rfl
        refine last_ (i := 11) (N := none) #[true, true, true, true, true, true, true, true, true, true, true, true] rfl rfl (by kernel_rfl) (by decide) (fun K hK => ?_)
        refine skip_ (w1 := ?_) (by rfl) rfl ?_ ?_
        rotate_left
        · go_simp
          rfl
        refine hK.out _ _ ?_
        clear hK K
        refine done_ (by kernel_rfl) ?_
        go_wp2
        go_ret
        have hqf := blk_set HQ8.out 2 (.slice A8 n8 c8)
        have hLf : Lg (w8.setCell ⟨q, 2, none⟩ (.slice A8 n8 c8)) (fun k => (B k ∧ k < w.heap.size) ∨ w4.heap.size ≤ k) q p { l with recs := l.recs ++ [b] } := by
          refine ⟨.slice A8 n8 c8, hqf.trans rfl, ?_, .inl ⟨HBQ.out, hql⟩⟩
          have h1 := HO8.out
          rw [show l.recs.map numsL ++ [numsL b] = (l.recs ++ [b]).map numsL from by rw [List.map_append]; rfl] at h1
          refine Kd.N_mono (Kd.N_far h1 (p := ⟨q, 2, none⟩) (fun k hk => hk.elim (fun h => h.1.2) (fun h => by have := Nat.lt_of_lt_of_le hql hs4; show k ≠ q; omega)) _) (fun k hk => ⟨hk.elim (fun h => .inl ⟨h.1.1, h.2⟩) .inr, hk.elim (fun h => h.1.2) (fun h => by have := Nat.lt_of_lt_of_le hql hs4; omega)⟩)
        have hcf : Chg (fun k => B k ∧ k < w.heap.size) w4 (w8.setCell ⟨q, 2, none⟩ (.slice A8 n8 c8)) :=
          (((Chg.of_below HB6.out _).grown HG8.out (fun k hk => .inl ⟨(HNE.out k hk).1.1, (HNE.out k hk).2⟩))).setCell (p := ⟨q, 2, none⟩) (.inl ⟨HBQ.out, hql⟩) _
        refine ⟨ret_int HE.out.symm, ?_⟩
        rw [HG.out, HH.out]
        exact HB4.out.log hLf hcf
      · have hb2 : (r2 != 0) = true := by rw [bne_iff_ne]; exact h2
        have HNZ := Aside0.mk h2
        clear h2
        have HE := Aside0.mk (show lappR l st b = r2 from by unfold lappR; rw [if_neg (by rw [← HMM.out]; exact fun h => h HZ.out), if_neg (by rw [← HR1.out]; exact fun h => h HZ1.out)]; exact HR2.out.symm)
        have HG := Aside0.mk (show lappS l st b = syncS (appendS st l.name (frB b)) from by unfold lappS; rw [if_neg (by rw [← HMM.out]; exact fun h => h HZ.out), if_neg (by rw [← HR1.out]; exact fun h => h HZ1.out)])
        have HH := Aside0.mk (show lappL l st b = toldS l r2 from by unfold lappL; rw [if_neg (by rw [← HMM.out]; exact fun h => h HZ.out), if_neg (by rw [← HR1.out]; exact fun h => h HZ1.out), if_pos (by rw [← HR2.out]; exact HNZ.out), ← HR2.out])
        have HT := Aside0.mk (HB4.out.told r2)
        go_wp2_with fail
        refine HT.out.mono ?_
        rintro e w6 ⟨rfl, A6, B6, h6⟩
        have HB6 := Aside0.mk h6
        clear h6
        go_wp2
        go_ret
        exact ⟨ret_int HE.out.symm, A6, B6, by rw [HG.out, HH.out]; exact HB6.out⟩
    · have hb1 : (r1 != 0) = true := by rw [bne_iff_ne]; exact h1
      have HB3 := Aside0.mk (HS3.out.both HL.out HO.out)
      have HNZ := Aside0.mk h1
      clear h1
      have HE := Aside0.mk (show lappR l st b = r1 from by unfold lappR; rw [if_neg (by rw [← HMM.out]; exact fun h => h HZ.out), if_pos (by rw [← HR1.out]; exact HNZ.out)]; exact HR1.out.symm)
      have HG := Aside0.mk (show lappS l st b = appendS st l.name (frB b) from by unfold lappS; rw [if_neg (by rw [← HMM.out]; exact fun h => h HZ.out), if_pos (by rw [← HR1.out]; exact HNZ.out)])
      have HH := Aside0.mk (show lappL l st b = toldS l r1 from by unfold lappL; rw [if_neg (by rw [← HMM.out]; exact fun h => h HZ.out), if_pos (by rw [← HR1.out]; exact HNZ.out), ← HR1.out])
      have HT := Aside0.mk (HB3.out.told r1)
      go_wp2_with fail
      refine HT.out.mono ?_
      rintro e w6 ⟨rfl, A6, B6, h6⟩
      have HB6 := Aside0.mk h6
      clear h6
      go_wp2
      go_ret
      exact ⟨ret_int HE.out.symm, A6, B6, by rw [HG.out, HH.out]; exact HB6.out⟩
  · have hb0 : (m != 0) = true := by rw [bne_iff_ne]; exact h0
    have HE := Aside0.mk (show lappR l st b = m from by unfold lappR; rw [if_pos (by rw [← HMM.out]; exact h0)]; exact HMM.out.symm)
    have HG := Aside0.mk (show lappS l st b = st from by unfold lappS; rw [if_pos (by rw [← HMM.out]; exact h0)])
    have HH := Aside0.mk (show lappL l st b = l from by unfold lappL; rw [if_pos (by rw [← HMM.out]; exact h0)])
    clear h0
    go_wp2
    go_ret
    exact ⟨ret_int HE.out.symm, by rw [HG.out, HH.out]; exact Both.same HD.out HL.out HO.out HBA.out⟩
end Go.Proofs.Ytipclnniaenciaa.Hand
