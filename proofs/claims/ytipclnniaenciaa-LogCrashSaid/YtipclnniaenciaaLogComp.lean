/- Compact: other records, over memory. -/
import Derived.Test.YtipclnniaenciaaLogApp
namespace Go.Proofs.Ytipclnniaenciaa.Hand
open Go.RowKit Go.Maps Go.Proofs.YtipclnniaenciaaW.PrintWords Go.Proofs.YtipclnniaenciaaW.PrintLast Go.Proofs.YtipclnniaenciaaW.PrintMore
set_option linter.unusedVariables false
set_option linter.unusedSimpArgs false
/-- On the way through Compact's loop: the log has the first i records, as copies. -/
def CInv (w3 w : World) (q p : Nat) (l : LSt) (rs : List By) (i : Nat) : Prop :=
  ∃ vv, w.heap[q]? = some (.cells #[.pointer (some ⟨p, 0, none⟩), .string l.name, vv, .bool l.down] 67 (0, 0)) ∧ NB w (fun k => w3.heap.size ≤ k) vv (rs.take i) ∧ Chg (fun k => k = q) w3 w
theorem N_snoc {w : World} {ok : Nat → Prop} {v : Value} (rs : List By) (i : Nat) (hi : i < rs.length) (h : Kd.N (Kd.slice 5 (Kd.int .u8)) 22 w 0 ok v ((rs.take i).map numsL ++ [numsL rs[i]])) : NB w ok v (rs.take (i + 1)) := by
  show Kd.N _ _ _ _ _ _ ((rs.take (i + 1)).map numsL)
  rw [List.take_succ_eq_append_getElem hi, List.map_append]
  exact h
set_option maxRecDepth 100000 in
set_option maxHeartbeats 16000000 in
theorem lcom_calls (w : World) (A B : Nat → Prop) (q p : Nat) (l : LSt) (st : DSt) (AL : Option Addr) (c : Nat) (rs : List By) (hL : Lg w B q p l) (hD : Dsk w A p st) (hoff : Off A B) (hfit : bigB rs = false → st.Fit (frs rs).length 3) (hCW : ∀ w', Chg (fun k => A k ∨ B k) w w' → CR w' AL rs) (hlc : rs.length ≤ c) (hrl : rs.length ≤ 100000000) (hsz : (frs rs).length ≤ 1000000000) (hnm : l.name.size ≤ 20) :
    Calls Try.prog 20 #[.pointer (some ⟨q, 0, none⟩), .slice AL rs.length c] w fun e w' => e = .returned (.int .i64 (lcomR l st rs)) ∧ ∃ A' B', Both w A B q p w' A' B' (lcomL l st rs) (lcomS l st rs) := by
  have hL0 := id hL
  have hC := hCW w (Chg.refl _ _)
  have HCW := Aside0.mk hCW
  obtain ⟨vr, hq, hnb, hBq⟩ := hL
  have hAq : ¬ A q := fun h => hoff q h hBq
  have hql := blk_lt hq
  have HQ := Aside0.mk hq
  have HA := Aside0.mk hAq
  have HL := Aside0.mk hL0
  have HBQ := Aside0.mk hBq
  have HO := Aside0.mk hoff
  have HD := Aside0.mk hD
  have HM := Aside0.mk (may_calls w B q p l AL c rs hL0 hC (by omega))
  have HT := Aside0.mk (fun h => lay_calls w A B q p l st AL c rs hL0 hD hoff (hfit h) hC hrl hsz hnm)
  have HBG := Aside0.mk (show mayR l rs = 0 → bigB rs = false from by
    intro h
    unfold mayR at h
    split at h
    · cases h
    · rename_i hb
      exact Bool.eq_false_iff.2 hb)
  have HSZ := Aside0.mk hsz
  clear hq hnb hBq hAq hL0 hfit hC hCW hoff hD hsz
  go_enter Try.func20, Try.ntmps20
  go_wp2_with fail
  refine HM.out.mono ?_
  rintro e w1 ⟨rfl, hw1⟩
  subst hw1
  obtain ⟨m, hm⟩ : ∃ m, m = mayR l rs := ⟨_, rfl⟩
  rw [← hm] at HBG ⊢
  have HMM := Aside0.mk hm
  clear hm HM
  by_cases h0 : m = 0
  · have HZ := Aside0.mk h0
    have HL2 := Aside0.mk (HT.out (HBG.out h0))
    have hb0 : (m != 0) = false := by rw [h0]; rfl
    clear h0 HBG HT
    go_wp2_with fail
    refine HL2.out.mono ?_
    rintro e w3 ⟨rfl, A3, hS3⟩
    have HS3 := Aside0.mk hS3
    have hs3 := hS3.2.2.size
    have HB3 := Aside0.mk (hS3.both HL.out HO.out)
    clear hS3 HL2
    obtain ⟨r1, hr1⟩ : ∃ r, r = layR st l.name rs := ⟨_, rfl⟩
    rw [← hr1]
    have HR1 := Aside0.mk hr1
    clear hr1
    by_cases h1 : r1 = 0
    · have HZ1 := Aside0.mk h1
      have hb1 : (r1 != 0) = false := by rw [h1]; rfl
      clear h1
      have hq3 : w3.heap[q]? = _ := HS3.out.blk HQ.out HA.out
      have hz32 : w3.cell? ⟨q, 2, none⟩ = some vr := (blk_cell hq3 2).trans rfl
      have hf32 := blk_frozen hq3 2
      have HQ3 := Aside0.mk hq3
      clear hq3
      go_wp2
      clear hz32 hf32
      go_loopw [28] (fun v28 wr => ∃ i : Nat, v28 = .int .i64 i ∧ i ≤ rs.length ∧ Aside0 (CInv w3 wr q p l rs i)) (fun v28 _ => rs.length - (intOf v28).toNat)
      case atStart => exact ⟨0, rfl, Nat.zero_le _, ⟨.slice none 0 0, (blk_set HQ3.out 2 _).trans rfl, Kd.N_nil _ _ _ _ _, Chg.set _ _ _ _⟩⟩
      case round =>
        obtain ⟨i, rfl, hi, HI⟩ := hrel
        obtain ⟨vv, hqr, hn, hcr⟩ := HI.out
        have HQR := Aside0.mk hqr
        have HN4 := Aside0.mk (Kd.N_bound hn)
        have HCR := Aside0.mk hcr
        have HNE := Aside0.mk (Kd.N_bound hn).1
        have hsr := hcr.size
        have HCC := Aside0.mk (HCW.out wr ((HS3.out.2.2.mono (fun k hk => .inl (.inl hk))).then_ hcr (fun k hk => .inl (.inr (by rw [hk]; exact HBQ.out)))))
        clear HI hqr hn hcr
        by_cases hlt : i < rs.length
        · obtain ⟨ad, A1, c1, rfl, hc, hlc1, hCi⟩ := rec_at HCC.out i hlt
          have hle := rec_le rs i hlt
          have hszz := HSZ.out
          have HSN := Aside0.mk (fun (w : World) (ok : Nat → Prop) (v : Value) => N_snoc (w := w) (ok := ok) (v := v) rs i hlt)
          obtain ⟨x, hx⟩ : ∃ x, x = rs[i] := ⟨_, rfl⟩
          rw [← hx] at hc hlc1 hCi hle HSN
          have HT := Aside0.mk (clone_calls wr.drew A1 x.length c1 x (Kd.C_drew hCi) rfl (by omega))
          have hz42 : wr.cell? ⟨q, 2, none⟩ = some vv := (blk_cell HQR.out 2).trans rfl
          clear hx hCi hszz hle
          go_wp2
          refine start_ (n := 12) (S := fun w' => w'.cell? ⟨q, 2, none⟩ = some vv) (ds := [11]) #[false, false, false, false, false, false, false, false, false, false, false, false] (by kernel_rfl) rfl rfl (hz42) (fun hHeld => ?_)
          refine pure_ (i := 0) (N := some 32) (v := ?_) (a' := ?_) #[true, false, false, false, false, false, false, false, false, false, false, false] rfl rfl (by kernel_rfl) (fun _ _ _ h => h) (Or.inl ⟨by rfl, ?_⟩) ?_ ?_
          rotate_left
          · intro w'
            go_simp
            with_reducible rfl
          rotate_left
          · simp only [Act.put, List.setIfInBounds_toArray, List.set_cons_zero, List.set_cons_succ, i64_w, i32_w]
            rfl
          refine pure_ (i := 1) (N := some 33) (v := ?_) (a' := ?_) #[true, true, false, false, false, false, false, false, false, false, false, false] rfl rfl (by kernel_rfl) (fun _ _ _ h => h) (Or.inl ⟨by rfl, ?_⟩) ?_ ?_
          rotate_left
          · intro w'
            go_simp
            with_reducible rfl
          rotate_left
          · simp only [Act.put, List.setIfInBounds_toArray, List.set_cons_zero, List.set_cons_succ, i64_w, i32_w]
            rfl
          refine pure_ (i := 2) (N := some 34) (v := ?_) (a' := ?_) #[true, true, true, false, false, false, false, false, false, false, false, false] rfl rfl (by kernel_rfl) (fun _ _ _ h => h) (Or.inl ⟨by rfl, ?_⟩) ?_ ?_
          rotate_left
          · intro w'
            go_simp
            with_reducible rfl
          rotate_left
          · simp only [Act.put, List.setIfInBounds_toArray, List.set_cons_zero, List.set_cons_succ, i64_w, i32_w]
            rfl
          refine pure_ (i := 3) (N := some 35) (v := ?_) (a' := ?_) #[true, true, true, true, false, false, false, false, false, false, false, false] rfl rfl (by kernel_rfl) (fun _ _ _ h => h) (Or.inl ⟨by rfl, ?_⟩) ?_ ?_
          rotate_left
          · intro w'
            go_simp
            with_reducible rfl
          rotate_left
          · simp only [Act.put, List.setIfInBounds_toArray, List.set_cons_zero, List.set_cons_succ, i64_w, i32_w]
            rfl
          refine pure_ (i := 5) (N := some 37) (v := ?_) (a' := ?_) #[true, true, true, true, false, true, false, false, false, false, false, false] rfl rfl (by kernel_rfl) (fun _ _ _ h => h) (Or.inl ⟨by rfl, ?_⟩) ?_ ?_
          rotate_left
          · intro w'
            go_simp
            with_reducible rfl
          rotate_left
          · simp only [Act.put, List.setIfInBounds_toArray, List.set_cons_zero, List.set_cons_succ, i64_w, i32_w]
            rfl
          refine take_ (i := 4) (N := some 36) (v := ?_) (a' := ?_) #[true, true, true, true, true, true, false, false, false, false, false, false] rfl rfl (by kernel_rfl) (fun _ _ _ h => h) (Or.inl ⟨by rfl, ?_⟩) hHeld ?_ ?_
          rotate_left
          · intro w' s0
            go_simp
            with_reducible rfl
          rotate_left
          · simp only [Act.put, List.setIfInBounds_toArray, List.set_cons_zero, List.set_cons_succ, i64_w, i32_w]
            rfl
          refine one_ (i := 6) (N := some 38) #[true, true, true, true, true, true, true, false, false, false, false, false] rfl rfl (by kernel_rfl) (by decide) (fun K hK => ?_)
          refine goes_ Try.func27 (by kernel_rfl) rfl #[.slice A1 x.length c1] (by rfl) rfl rfl (by simp only [List.map_toArray, List.map_cons, List.map_nil]; rfl) ?_
          with_reducible refine (HT.out).mono ?_
          rintro e w6 ⟨v6, rfl, hR6, hb6⟩
          refine ⟨_, rfl, ?_⟩
          obtain ⟨A6, n6, c6, rfl⟩ : ∃ A n c, v6 = .slice A n c := by obtain ⟨A, c, e, _⟩ := RB_slice hR6; exact ⟨A, _, c, e⟩
          have hb46 := (below_drew (Below.refl wr.heap.size wr)).trans hb6
          have hq6 : w6.heap[q]? = _ := (hb46.block q (by omega)).trans HQR.out
          have HQ6 := Aside0.mk hq6
          have HN6 := Aside0.mk (Kd.N_below HN4.out hb46)
          have HR6 := Aside0.mk hR6
          have HB6 := Aside0.mk hb46
          have hs6 := hb46.size
          clear hR6 hb6 hb46 hq6
          refine hK.out _ _ ((blk_cell HQ6.out 2).trans rfl) (fun hHeld => ?_)
          clear hK K
          refine norm_ (a' := ?_) ?_ ?_
          rotate_left
          · show Act.put _ (some 38) _ = _
            simp only [Act.put, List.setIfInBounds_toArray, List.set_cons_zero, List.set_cons_succ, i64_w, i32_w]
            rfl
          refine one_ (i := 7) (N := some 39) #[true, true, true, true, true, true, true, true, false, false, false, false] rfl rfl (by kernel_rfl) (by decide) (fun K hK => ?_)
          refine value_ (w1 := ?_) (v := ?_) (by rfl) rfl ?_ ?_
          rotate_left 2
          · go_simp
            constructor
            · rfl
            · rfl
          refine hK.out _ _ ((blk_cell (blk_alloc HQ6.out _) 2).trans rfl) (fun hHeld => ?_)
          clear hK K
          refine norm_ (a' := ?_) ?_ ?_
          rotate_left
          · show Act.put _ (some 39) _ = _
            simp only [Act.put, List.setIfInBounds_toArray, List.set_cons_zero, List.set_cons_succ, i64_w, i32_w]
            rfl
          refine one_ (i := 8) (N := some 40) #[true, true, true, true, true, true, true, true, true, false, false, false] rfl rfl (by kernel_rfl) (by decide) (fun K hK => ?_)
          refine Kd.N_append_step (Kd.slice 5 (Kd.int .u8)) (w0 := w6) (W := w6) 0 (by rfl) (.tmp 36) (.tmp 39) 32 22 (.slice none 0 0) 24 rfl Try.underlying32 infoSl rfl (by decide) (by omega) vv ((rs.take i).map numsL) (numsL x) [.slice A6 n6 c6] (fun k => w3.heap.size ≤ k) (fun k => wr.heap.size ≤ k) rfl rfl ?aM ?aK ?aF ?aO ?aB ?aS ?aL ?_
          (case aM => exact Kd.FK_of_M (Kd.M_row HR6.out))
          (case aK => exact fun k hk => ⟨Nat.le_trans hsr hk, fun he => by have := (HNE.out k he.symm).2; omega⟩)
          (case aF => exact fun k hk => Nat.le_trans hsr (Nat.le_trans hs6 hk))
          (case aO => exact Kd.N_mono HN6.out (fun k hk => hk.1))
          (case aB => exact Below.refl _ _)
          (case aS => exact Nat.zero_le _)
          (case aL => rw [List.length_map, List.length_take]; omega)
          intro v8 w8 ho8 hb8 hg8 hat8
          obtain ⟨A8, n8, c8, rfl⟩ : ∃ A n c, v8 = .slice A n c := by obtain ⟨A, c, e⟩ := Kd.N_slice ho8; exact ⟨A, _, c, e⟩
          have hq8 : w8.heap[q]? = _ := blk_grown (w := w6) HQ6.out hg8 (fun he => by have := (HNE.out q (by first | exact he | exact he.symm)).1; omega)
          have HQ8 := Aside0.mk hq8
          have HO8 := Aside0.mk ho8
          have HG8 := Aside0.mk hg8
          have hf82 := blk_frozen hq8 2
          have hz82 : w8.cell? ⟨q, 2, none⟩ = some vv := (blk_cell hq8 2).trans rfl
          clear ho8 hb8 hg8 hat8 hq8
          refine hK.out _ _ ((blk_cell HQ8.out 2).trans rfl) (fun hHeld => ?_)
          clear hK K
          refine norm_ (a' := ?_) ?_ ?_
          rotate_left
          · show Act.put _ (some 40) _ = _
            simp only [Act.put, List.setIfInBounds_toArray, List.set_cons_zero, List.set_cons_succ, i64_w, i32_w]
            rfl
          refine pure_ (i := 9) (N := some 41) (v := ?_) (a' := ?_) #[true, true, true, true, true, true, true, true, true, true, false, false] rfl rfl (by kernel_rfl) (fun _ _ _ h => h) (Or.inl ⟨by rfl, ?_⟩) ?_ ?_
          rotate_left
          · intro w'
            go_simp
            with_reducible rfl
          rotate_left
          · simp only [Act.put, List.setIfInBounds_toArray, List.set_cons_zero, List.set_cons_succ, i64_w, i32_w]
            rfl
          refine pure_ (i := 10) (N := some 42) (v := ?_) (a' := ?_) #[true, true, true, true, true, true, true, true, true, true, true, false] rfl rfl (by kernel_rfl) (fun _ _ _ h => h) (Or.inl ⟨by rfl, ?_⟩) ?_ ?_
          rotate_left
          · intro w'
            go_simp
            with_reducible rfl
          rotate_left
          · simp only [Act.put, List.setIfInBounds_toArray, List.set_cons_zero, List.set_cons_succ, i64_w, i32_w]
            rfl
          refine last_ (i := 11) (N := none) #[true, true, true, true, true, true, true, true, true, true, true, true] rfl rfl (by kernel_rfl) (by decide) (fun K hK => ?_)
          refine skip_ (w1 := ?_) (by rfl) rfl ?_ ?_
          rotate_left
          · go_simp
            rfl
          refine hK.out _ _ ?_
          clear hK K
          refine done_ (by kernel_rfl) ?_
          go_wp2
          go_roundw
          case rel =>
            refine ⟨i + 1, by go_num, hlt, ⟨.slice A8 n8 c8, (blk_set HQ8.out 2 _).trans rfl, ?_, ?_⟩⟩
            · exact Kd.N_far (HSN.out _ _ _ HO8.out) (p := ⟨q, 2, none⟩) (fun k hk => by show k ≠ q; have := Nat.lt_of_lt_of_le hql hs3; omega) _
            · exact ((HCR.out.below HB6.out).grown HG8.out (fun k hk => .inr (HNE.out k hk).1)).setCell (p := ⟨q, 2, none⟩) (.inl rfl) _
          case measure => simp [intOf]; omega
        · obtain rfl : i = rs.length := by omega
          have HE := Aside0.mk (show lcomR l st rs = 0 from by unfold lcomR; rw [if_neg (by rw [← HMM.out]; exact fun h => h HZ.out)]; exact HR1.out.symm.trans HZ1.out)
          have HG := Aside0.mk (show lcomS l st rs = layS st l.name rs from by unfold lcomS; rw [if_neg (by rw [← HMM.out]; exact fun h => h HZ.out)])
          have HH := Aside0.mk (show lcomL l st rs = { l with recs := rs } from by unfold lcomL; rw [if_neg (by rw [← HMM.out]; exact fun h => h HZ.out), if_neg (by rw [← HR1.out]; exact fun h => h HZ1.out)])
          go_wp2
          go_ret
          have hn4 := HN4.out
          rw [List.take_length] at hn4
          refine ⟨ret_int HE.out.symm, ?_⟩
          rw [HG.out, HH.out]
          exact HB3.out.log ⟨vv, HQR.out, Kd.N_mono hn4 (fun k hk => ⟨.inr hk.1, by have := Nat.lt_of_lt_of_le hql hs3; have := hk.1; omega⟩), .inl ⟨HBQ.out, hql⟩⟩ (HCR.out.mono (fun k hk => .inl (by rw [hk]; exact ⟨HBQ.out, hql⟩)))
    · have hb1 : (r1 != 0) = true := by rw [bne_iff_ne]; exact h1
      have HNZ := Aside0.mk h1
      clear h1
      have HE := Aside0.mk (show lcomR l st rs = r1 from by unfold lcomR; rw [if_neg (by rw [← HMM.out]; exact fun h => h HZ.out)]; exact HR1.out.symm)
      have HG := Aside0.mk (show lcomS l st rs = layS st l.name rs from by unfold lcomS; rw [if_neg (by rw [← HMM.out]; exact fun h => h HZ.out)])
      have HH := Aside0.mk (show lcomL l st rs = toldS l r1 from by unfold lcomL; rw [if_neg (by rw [← HMM.out]; exact fun h => h HZ.out), if_pos (by rw [← HR1.out]; exact HNZ.out), ← HR1.out])
      have HT := Aside0.mk (HB3.out.told r1)
      go_wp2_with fail
      refine HT.out.mono ?_
      rintro e w6 ⟨rfl, A6, B6, h6⟩
      have HB6 := Aside0.mk h6
      clear h6
      go_wp2
      go_ret
      exact ⟨ret_int HE.out.symm, A6, B6, by rw [HG.out, HH.out]; exact HB6.out⟩
  · have hb0 : (m != 0) = true := by rw [bne_iff_ne]; exact h0
    have HE := Aside0.mk (show lcomR l st rs = m from by unfold lcomR; rw [if_pos (by rw [← HMM.out]; exact h0)]; exact HMM.out.symm)
    have HG := Aside0.mk (show lcomS l st rs = st from by unfold lcomS; rw [if_pos (by rw [← HMM.out]; exact h0)])
    have HH := Aside0.mk (show lcomL l st rs = l from by unfold lcomL; rw [if_pos (by rw [← HMM.out]; exact h0)])
    clear h0
    go_wp2
    go_ret
    exact ⟨ret_int HE.out.symm, by rw [HG.out, HH.out]; exact Both.same HD.out HL.out HO.out (Below.refl _ _)⟩
end Go.Proofs.Ytipclnniaenciaa.Hand
