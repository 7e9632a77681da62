/- LogFull, walked by hand. -/
import Derived.Test.YtipclnniaenciaaLogRest
namespace Go.Proofs.Ytipclnniaenciaa.Hand
open Go.RowKit Go.Maps Go.Proofs.YtipclnniaenciaaW.PrintWords Go.Proofs.YtipclnniaenciaaW.PrintLast Go.Proofs.YtipclnniaenciaaW.PrintMore
set_option linter.unusedVariables false
set_option linter.unusedSimpArgs false
theorem rest_crash (x : Option By) (c : Int) : crashS (stF x c) 0 (-1) = stF x c := by cases x <;> rfl
theorem make_big (w : World) (n : Nat) (hn : n ≤ 1000000000) : ∃ (b : By) (cs : Array Value), b.length = n ∧ cs = ((numsL b).map (Value.int .u8)).toArray ∧ (Instr.makeSlice 22 (.int .i64 n) (.int .i64 n)).run Try.prog w = .ok (.slice (some ⟨w.heap.size, 0, none⟩) n n) (w.alloc (.cells cs 5)) := by
  obtain ⟨i0, hi, hzz⟩ := Option.map_eq_some_iff.1 infoU8
  simp only [Prod.mk.injEq] at hzz
  obtain ⟨hz0, hz1, hz2⟩ := hzz
  have hr := run_make (P := Try.prog) w 22 5 i0 (.int .u8 0) Try.underlying22 hi hz0 .i64 .i64 (n : Int) (n : Int) (by omega) (by omega) (by rw [hz2]; omega) (by omega)
  simp only [Int.toNat_natCast] at hr
  rw [hz1, Nat.mul_one] at hr
  refine ⟨List.replicate n 0, _, List.length_replicate, ?_, hr⟩
  rw [show madeCells (Value.int .u8 0).cells n = (madeCells #[.int .u8 0] n).toList.toArray from rfl, toList_madeCells_one]
  show _ = (List.map _ ((List.replicate n (0 : UInt8)).map _)).toArray
  rw [List.map_replicate, List.map_replicate]
  rfl
/-- What the first loop holds: rs is what was taken. -/
def FInv (W w : World) (q p : Nat) (cap : Int) (i : Nat) (v10 : Value) (n : Nat) : Prop :=
  ∃ A B C D x rs, LR W w A B C D q p ⟨nA, rs, false⟩ (stF x cap) (.slice none 0 0) [] v10 rs ∧ x.getD [] = frs rs ∧ n = (frs rs).length ∧ (frs rs).length ≤ 256 ∧ (∀ y ∈ rs, y.length ≤ 300) ∧ rs.length ≤ i
theorem newS_stF (c : Int) (hc : 0 ≤ c) : newS c = stF none c := by
  unfold newS
  rw [if_neg (by omega)]
  rfl
theorem FInv.start {W w : World} {A B : Nat → Prop} {q p : Nat} {c : Int} (hc : 0 ≤ c) (h : Law W w A B q p ⟨nA, [], false⟩ (newS c)) : FInv W w q p c 0 (.slice none 0 0) 0 :=
  ⟨A, B, _, _, none, [], LR.start (newS_stF c hc ▸ h), rfl, rfl, by decide, (fun y hy => by cases hy), Nat.le_refl _⟩
set_option maxRecDepth 100000 in
set_option maxHeartbeats 16000000 in
theorem LogFull_calls (W : World) (AL AM : Option Addr) (cL cM : Nat) (ls ms : List By) (c : Int) (hc0 : 0 ≤ c) (hc1 : c ≤ 255) (hL : CR W AL ls) (hM : CR W AM ms) (hcL : ls.length ≤ cL) (hcM : ms.length ≤ cM) (hl : ls.length ≤ 10000000000000) (hm : ms.length ≤ 10000000000000) :
    Calls Try.prog 6 #[.slice AL ls.length cL, .int .u8 c, .slice AM ms.length cM] W fun e w' => e = .returned (.bool true) ∧ Below W.heap.size W w' := by
  have HL := Aside0.mk hL
  have HM := Aside0.mk hM
  have HCM := Aside0.mk hcM
  clear hL hM
  by_cases h1 : (20 : Int) < ls.length
  · go_enter Try.func6, Try.ntmps6
    go_wp2_with fail
    refine (answers_calls _).mono ?_
    rintro e w4 ⟨rfl, hb4⟩
    have HB4 := Aside0.mk hb4
    clear hb4
    go_wp2
    go_ret
    exact ⟨rfl, HB4.out⟩
  · by_cases h2 : (20 : Int) < ms.length
    · go_enter Try.func6, Try.ntmps6
      go_wp2_with fail
      refine (answers_calls _).mono ?_
      rintro e w4 ⟨rfl, hb4⟩
      have HB4 := Aside0.mk hb4
      clear hb4
      go_wp2
      go_ret
      exact ⟨rfl, HB4.out⟩
    · have HNW := Aside0.mk (fun W => New_law W c)
      go_enter Try.func6, Try.ntmps6
      go_wp2_with fail
      refine (HNW.out _).mono ?_
      rintro e w1 ⟨p, A1, rfl, hD1⟩
      have HO := Aside0.mk (hD1.opnew (by omega))
      clear hD1 HNW
      go_wp2_with fail
      refine HO.out.mono ?_
      rintro e w2 ⟨q, A2, B2, rfl, hL2⟩
      have HL2 := Aside0.mk hL2
      clear hL2 HO
      go_wp2
      go_loopw [10, 11, 12] (fun v10 v11 v12 wr => ∃ i n : Nat, v12 = .int .i64 i ∧ i ≤ ls.length ∧ v11 = .int .i64 n ∧ n ≤ 256 ∧ Aside0 (FInv W wr q p c i v10 n)) (fun _ _ v12 _ => ls.length - (intOf v12).toNat)
      case atStart => exact ⟨0, 0, rfl, Nat.zero_le _, rfl, by decide, ⟨FInv.start (by omega) HL2.out⟩⟩
      case round =>
        obtain ⟨i, n, rfl, hi, rfl, hn, HI⟩ := hrel
        obtain ⟨A, B, C, D, x, rs, hR, hx, hnr, hf, hsm, hri⟩ := HI.out
        have HR := Aside0.mk hR
        have HX := Aside0.mk hx
        have HSM := Aside0.mk hsm
        have HNR := Aside0.mk hnr
        have HRI := Aside0.mk hri
        obtain ⟨A9, c9, e9, hl9, hC9⟩ := NB_slice hR.r9
        obtain ⟨n9, hn9⟩ : ∃ n, n = rs.length := ⟨_, rfl⟩
        rw [← hn9] at e9 hl9
        have hn9i : n9 ≤ i := by omega
        subst e9
        have HN9 := Aside0.mk hn9
        clear HI hR hx hsm hC9 hn9 hnr hf hri
        by_cases hlt : i < ls.length
        · obtain ⟨ad, A1, c1, rfl, hc0', hlc1, hC0⟩ := rec_at HL.out i hlt
          have hc := (HR.out.law.1.2.2.cell (cell_lt' hc0')).trans hc0'
          obtain ⟨y, hy⟩ : ∃ y, y = ls[i] := ⟨_, rfl⟩
          rw [← hy] at hc hlc1 hC0 hc0'
          have HC0 := Aside0.mk hC0
          have HCC := Aside0.mk hc0'
          clear hy hc0' hC0
          by_cases hbig : (300 : Int) < y.length
          · go_wp2_with fail
            refine (answers_calls _).mono ?_
            rintro e w4 ⟨rfl, hb4⟩
            have HB4 := Aside0.mk (HR.out.law.1.2.2.trans (hb4.mono HR.out.law.1.2.2.size))
            clear hb4
            go_wp2
            go_ret
            exact ⟨rfl, HB4.out⟩
          · have HA := Aside0.mk (HR.out.app HC0.out hlc1 (by omega) (by rw [HX.out, ← HNR.out]; unfold maxB; omega) (by rw [← HN9.out]; omega))
            by_cases hfit : (n : Int) + (y.length + 8) ≤ c
            · obtain ⟨e1, e2, e3⟩ := lapp_yes x c rs y (by omega) (by rw [HX.out, ← HNR.out]; omega)
              rw [e1, e2, e3] at HA
              clear e1 e2 e3
              go_wp2_with fail
              refine HA.out.mono ?_
              rintro e w4 ⟨rfl, A4, B4, hR4⟩
              have HR4 := Aside0.mk hR4
              have hc4 := (hR4.law.1.2.2.cell (cell_lt' HCC.out)).trans HCC.out
              clear hR4 hc HA
              go_wp2_with ((with_reducible refine gate_builtin (b := .append) (xs := #[.tmp 93, .tmp 98]) rfl ?_); at_builtin; refine Kd.N_append (Kd.slice 5 (Kd.int .u8)) (w0 := w4) (W := w4) 0 rfl (.tmp 93) (.tmp 98) 32 22 (.slice none 0 0) 24 rfl Try.underlying32 infoSl rfl (by decide) (by omega) (.slice A9 n9 c9) (rs.map numsL) (numsL y) [.slice A1 y.length c1] (fun k => (D k ∨ k < W.heap.size) ∨ w4.heap.size ≤ k) (fun k => k < W.heap.size) rfl rfl ?aM ?aK ?aF ?aO ?aB ?aS ?aL ?_; (case aM => exact HR4.out.elem HC0.out hlc1); (case aK => exact fun k hk => ⟨.inl (.inr hk), fun he => by have := (HR4.out.sets.d k (HR4.out.o9 k he.symm)).1; omega⟩); (case aF => exact fun k hk => .inr hk); (case aO => exact Kd.N_mono HR4.out.r9 (fun k hk => .inl hk)); (case aB => exact Below.refl _ _); (case aS => exact Nat.zero_le _); (case aL => rw [List.length_map, ← HN9.out]; omega); intro v8 w8 ho8 hb8 hg8 hat8; have HR8 := Aside0.mk (HR4.out.recs (N_one ho8) hat8 hg8); clear ho8 hb8 hg8 hat8 hc4)
              go_roundw
              case rel => exact ⟨i + 1, n + (y.length + 8), by go_num, hlt, by go_num, by omega, ⟨_, _, _, _, _, _, HR8.out, by rw [frs_snoc, ← HX.out]; rfl, by rw [frs_snoc, List.length_append, frB_len, ← HNR.out], by rw [frs_snoc, List.length_append, frB_len, ← HNR.out]; omega, (fun z hz => (List.mem_append.1 hz).elim (HSM.out z) (fun g => by rw [List.mem_singleton.1 g]; omega)), by rw [List.length_append]; have := HRI.out; simp; omega⟩⟩
              case measure => simp [intOf]; omega
            · obtain ⟨e1, e2, e3⟩ := lapp_no x c rs y (by omega) (by rw [HX.out, ← HNR.out]; omega)
              rw [e1, e2, e3] at HA
              clear e1 e2 e3
              go_wp2_with fail
              refine HA.out.mono ?_
              rintro e w4 ⟨rfl, A4, B4, hR4⟩
              have HR4 := Aside0.mk hR4
              have hc4 := (hR4.law.1.2.2.cell (cell_lt' HCC.out)).trans HCC.out
              clear hR4 hc HA
              go_wp2
              go_roundw
              case rel => exact ⟨i + 1, n, by go_num, hlt, rfl, by omega, ⟨_, _, _, _, _, _, HR4.out, HX.out, HNR.out, by rw [← HNR.out]; omega, HSM.out, by have := HRI.out; omega⟩⟩
              case measure => simp [intOf]; omega
        · obtain rfl : i = ls.length := by omega
          go_wp2
          go_loop [16, 17] (fun v16 v17 => ∃ j m : Nat, v17 = .int .i64 j ∧ j ≤ ms.length ∧ v16 = .int .i64 m ∧ m ≤ j * 308 ∧ Aside0 ((∀ y ∈ ms.take j, y.length ≤ 300) ∧ m = (frs (ms.take j)).length)) (fun _ v17 => ms.length - (intOf v17).toNat)
          case atStart => exact ⟨0, 0, rfl, Nat.zero_le _, rfl, Nat.le_refl _, ⟨(fun y hy => by cases hy), rfl⟩⟩
          case round =>
            obtain ⟨j, m, rfl, hj, rfl, hmj, HI⟩ := hrel
            by_cases hlt : j < ms.length
            · obtain ⟨ad, A1, c1, rfl, hc0', hlc1, hC0⟩ := rec_at HM.out j hlt
              have hc := (HR.out.law.1.2.2.cell (cell_lt' hc0')).trans hc0'
              obtain ⟨y, hy⟩ : ∃ y, y = ms[j] := ⟨_, rfl⟩
              have HT := Aside0.mk (show ms.take (j + 1) = ms.take j ++ [y] from by rw [List.take_succ_eq_append_getElem hlt, hy])
              rw [← hy] at hc hlc1 hC0 hc0'
              clear hy hc0' hC0
              by_cases hbig : (300 : Int) < y.length
              · go_wp2_with fail
                refine (answers_calls _).mono ?_
                rintro e w4 ⟨rfl, hb4⟩
                have HB4 := Aside0.mk (HR.out.law.1.2.2.trans (hb4.mono HR.out.law.1.2.2.size))
                clear hb4
                go_wp2
                go_ret
                exact ⟨rfl, HB4.out⟩
              · go_wp2
                go_round
                case rel => exact ⟨j + 1, m + (y.length + 8), by go_num, hlt, by go_num, by omega, ⟨(fun z hz => by rw [HT.out] at hz; exact (List.mem_append.1 hz).elim (HI.out.1 z) (fun g => by rw [List.mem_singleton.1 g]; omega)), by rw [HT.out, frs_snoc, List.length_append, frB_len, ← HI.out.2]⟩⟩
                case measure => simp [intOf]; omega
            · obtain rfl : j = ms.length := by omega
              rw [List.take_length] at HI
              have HF := Aside0.mk (show (frs rs).length ≤ 256 ∧ rs.length ≤ 20 ∧ (frs ms).length ≤ 6160 ∧ ms.length ≤ 20 from ⟨by rw [← HNR.out]; omega, by rw [← HN9.out]; omega, by rw [← HI.out.2]; omega, by omega⟩)
              have HA := Aside0.mk (HR.out.com HM.out HCM.out (by omega) (by have := HF.out.2.2.1; omega) (by rw [HX.out]; have := HF.out.1; have := HF.out.2.2.1; unfold maxB; omega))
              by_cases hfit : (n : Int) + m ≤ c
              · obtain ⟨e1, e2, e3⟩ := lcom_yes x c rs ms (fun y hy => by have := HI.out.1 y hy; omega) (by rw [HX.out, ← HNR.out, ← HI.out.2]; omega)
                rw [e1, e2, e3] at HA
                have HXX := Aside0.mk (show (some (frs ms)).getD [] = frs ms from rfl)
                have HSZ := Aside0.mk (show (∀ y ∈ ms, y.length ≤ 300) ∧ (frs ms).length ≤ 6160 ∧ ms.length ≤ 20 from ⟨HI.out.1, HF.out.2.2.1, HF.out.2.2.2⟩)
                clear e1 e2 e3
                go_wp2_with fail
                refine HA.out.mono ?_
                rintro e w8 ⟨rfl, A8', B8', hR8⟩
                have HCR := Aside0.mk (hR8.crash (stF_fit (some (frs ms)) c 0 0 (by rw [HXX.out]; have := HSZ.out.2.1; unfold maxB; omega) (by decide)).ok 0 (-1))
                rw [rest_crash] at HCR
                clear hR8 HA
                go_wp2_with fail
                refine HCR.out.mono ?_
                rintro e w9 ⟨rfl, A9', B9', hR9⟩
                have HOP := Aside0.mk (hR9.opnw (fun y hy => by have := HSZ.out.1 y hy; omega) HXX.out (by have := HSZ.out.2.1; omega))
                clear hR9 HCR
                go_wp2_with fail
                refine HOP.out.mono ?_
                rintro e w10 ⟨q2, A10, B10, B2, rfl, hR10, hL10, _, _⟩
                have HR10 := Aside0.mk hR10
                have HL10 := Aside0.mk hL10
                clear hR10 hL10 HOP
                go_wp2_with fail
                refine (answers_calls _).mono ?_
                rintro e w11 ⟨rfl, hb11⟩
                have HR11 := Aside0.mk (HR10.out.below hb11)
                have HRC := Aside0.mk (recs_calls w11 B2 q2 p _ (HL10.out.below hb11) (by show ms.length ≤ _; have := HSZ.out.2.2; omega) (fun y hy => by have := HSZ.out.1 y hy; omega))
                clear hb11
                go_wp2_with fail
                refine HRC.out.mono ?_
                rintro e w12 ⟨v12, rfl, hn12, hb12⟩
                obtain ⟨Ay, cy, rfl, hly, hCy⟩ := NB_slice hn12
                have HR12 := Aside0.mk (HR11.out.below hb12)
                have HS := Aside0.mk (sameAll_yes hCy (Kd.C_below HM.out HR12.out.law.1.2.2) hly HCM.out (by have := HSZ.out.2.2; omega) (fun y hy => by have := HSZ.out.1 y hy; omega) rfl)
                clear hn12 hb12 hCy HRC
                go_wp2_with fail
                refine HS.out.mono ?_
                rintro e w13 ⟨rfl, hb13⟩
                have HR13 := Aside0.mk (HR12.out.below hb13)
                have HRC := Aside0.mk (HR13.out.recs' (by have := HSZ.out.2.2; omega) (fun y hy => by have := HSZ.out.1 y hy; omega))
                clear hb13 HS hly
                go_wp2_with fail
                refine HRC.out.mono ?_
                rintro e w14 ⟨v14, rfl, hn14, hR14⟩
                obtain ⟨Az, cz, rfl, hlz, hCz⟩ := NB_slice hn14
                have HR14 := Aside0.mk hR14
                have HS := Aside0.mk (sameAll_yes hCz (Kd.C_below HM.out HR14.out.law.1.2.2) hlz HCM.out (by have := HSZ.out.2.2; omega) (fun y hy => by have := HSZ.out.1 y hy; omega) rfl)
                clear hn14 hR14 hCz HRC
                go_wp2_with fail
                refine HS.out.mono ?_
                rintro e w15 ⟨rfl, hb15⟩
                have HR15 := Aside0.mk (HR14.out.below hb15)
                obtain ⟨bz, cs, hbl, hcs, hmk⟩ := make_big w15 262145 (by decide)
                have hmk' : (Instr.makeSlice 22 (.int .i64 262145) (.int .i64 262145)).run Try.prog w15 = .ok (.slice (some ⟨w15.heap.size, 0, none⟩) 262145 262145) (w15.alloc (.cells cs 5)) := hmk
                have HCS := Aside0.mk hcs
                have HBL := Aside0.mk hbl
                have HR16 := Aside0.mk (HR15.out.below (below_alloc (Below.refl _ _) (.cells cs 5)))
                have hnew := HR15.out.law.new (Nat.le_refl w15.heap.size)
                have hbig : bigB [bz] = true := by unfold bigB; rw [List.any_cons, decide_eq_true (by omega)]; rfl
                have hmay : mayR ⟨nA, ms, false⟩ [bz] = 9 := by unfold mayR; rw [hbig]; rfl
                have HLA := Aside0.mk (lapp_calls _ _ _ q p ⟨nA, ms, false⟩ (stF (some (frs ms)) c) (some ⟨w15.heap.size, 0, none⟩) 262145 bz HR16.out.law.2.1 HR16.out.law.1.1 HR16.out.law.2.2.1 (fun h => by rw [hbig] at h; cases h) (fun w' hc => C_block (hc.blk (blk_new w15 _) hnew) HCS.out (by rw [nums_len, HBL.out]; decide)) (by omega) (by omega) (by show nA.size ≤ 20; decide) (by show ms.length ≤ _; have := HSZ.out.2.2; omega))
                rw [show lappR ⟨nA, ms, false⟩ (stF (some (frs ms)) c) bz = 9 from by unfold lappR; rw [hmay]; rfl, HBL.out] at HLA
                clear hb15 HS hmk hcs hbl hnew hbig hmay
                go_wp2_with fail
                refine HLA.out.mono ?_
                rintro e w16 ⟨rfl, A16, B16, hB16⟩
                have HB := Aside0.mk (HR16.out.log hB16).law.1.2.2
                clear hB16 HLA
                go_wp2
                go_ret
                exact ⟨rfl, HB.out⟩
              · obtain ⟨e1, e2, e3⟩ := lcom_no x c rs ms (fun y hy => by have := HI.out.1 y hy; omega) (by rw [HX.out, ← HNR.out, ← HI.out.2]; omega)
                rw [e1, e2, e3] at HA
                have HXX := Aside0.mk HX.out
                have HSZ := Aside0.mk (show (∀ y ∈ rs, y.length ≤ 300) ∧ (frs rs).length ≤ 6160 ∧ rs.length ≤ 20 from ⟨HSM.out, by have := HF.out.1; omega, HF.out.2.1⟩)
                clear e1 e2 e3
                go_wp2_with fail
                refine HA.out.mono ?_
                rintro e w8 ⟨rfl, A8', B8', hR8⟩
                have HCR := Aside0.mk (hR8.crash (stF_fit (x) c 0 0 (by rw [HXX.out]; have := HSZ.out.2.1; unfold maxB; omega) (by decide)).ok 0 (-1))
                rw [rest_crash] at HCR
                clear hR8 HA
                go_wp2_with fail
                refine HCR.out.mono ?_
                rintro e w9 ⟨rfl, A9', B9', hR9⟩
                have HOP := Aside0.mk (hR9.opnw (fun y hy => by have := HSZ.out.1 y hy; omega) HXX.out (by have := HSZ.out.2.1; omega))
                clear hR9 HCR
                go_wp2_with fail
                refine HOP.out.mono ?_
                rintro e w10 ⟨q2, A10, B10, B2, rfl, hR10, hL10, _, _⟩
                have HR10 := Aside0.mk hR10
                have HL10 := Aside0.mk hL10
                clear hR10 hL10 HOP
                go_wp2_with fail
                refine (answers_calls _).mono ?_
                rintro e w11 ⟨rfl, hb11⟩
                have HR11 := Aside0.mk (HR10.out.below hb11)
                have HRC := Aside0.mk (recs_calls w11 B2 q2 p _ (HL10.out.below hb11) (by show rs.length ≤ _; have := HSZ.out.2.2; omega) (fun y hy => by have := HSZ.out.1 y hy; omega))
                clear hb11
                go_wp2_with fail
                refine HRC.out.mono ?_
                rintro e w12 ⟨v12, rfl, hn12, hb12⟩
                obtain ⟨Ay, cy, rfl, hly, hCy⟩ := NB_slice hn12
                have HR12 := Aside0.mk (HR11.out.below hb12)
                obtain ⟨Aq, cq, eq, hlq, hCq⟩ := NB_slice HR12.out.r9
                rw [← HN9.out] at eq
                injection eq with eq eq' eq''
                subst eq eq''
                have HS := Aside0.mk (sameAll_yes hCy hCq hly hlq (by have := HSZ.out.2.2; omega) (fun y hy => by have := HSZ.out.1 y hy; omega) rfl)
                rw [← HN9.out] at HS hly
                rw [← HN9.out]
                clear hCq hlq
                clear hn12 hb12 hCy HRC
                go_wp2_with fail
                refine HS.out.mono ?_
                rintro e w13 ⟨rfl, hb13⟩
                have HR13 := Aside0.mk (HR12.out.below hb13)
                have HRC := Aside0.mk (HR13.out.recs' (by have := HSZ.out.2.2; omega) (fun y hy => by have := HSZ.out.1 y hy; omega))
                clear hb13 HS hly
                go_wp2_with fail
                refine HRC.out.mono ?_
                rintro e w14 ⟨v14, rfl, hn14, hR14⟩
                obtain ⟨Az, cz, rfl, hlz, hCz⟩ := NB_slice hn14
                have HR14 := Aside0.mk hR14
                obtain ⟨Aq, cq, eq, hlq, hCq⟩ := NB_slice HR14.out.r9
                rw [← HN9.out] at eq
                injection eq with eq eq' eq''
                subst eq eq''
                have HS := Aside0.mk (sameAll_yes hCz hCq hlz hlq (by have := HSZ.out.2.2; omega) (fun y hy => by have := HSZ.out.1 y hy; omega) rfl)
                rw [← HN9.out] at HS hlz
                rw [← HN9.out]
                clear hCq hlq
                clear hn14 hR14 hCz HRC
                go_wp2_with fail
                refine HS.out.mono ?_
                rintro e w15 ⟨rfl, hb15⟩
                have HR15 := Aside0.mk (HR14.out.below hb15)
                obtain ⟨bz, cs, hbl, hcs, hmk⟩ := make_big w15 262145 (by decide)
                have hmk' : (Instr.makeSlice 22 (.int .i64 262145) (.int .i64 262145)).run Try.prog w15 = .ok (.slice (some ⟨w15.heap.size, 0, none⟩) 262145 262145) (w15.alloc (.cells cs 5)) := hmk
                have HCS := Aside0.mk hcs
                have HBL := Aside0.mk hbl
                have HR16 := Aside0.mk (HR15.out.below (below_alloc (Below.refl _ _) (.cells cs 5)))
                have hnew := HR15.out.law.new (Nat.le_refl w15.heap.size)
                have hbig : bigB [bz] = true := by unfold bigB; rw [List.any_cons, decide_eq_true (by omega)]; rfl
                have hmay : mayR ⟨nA, rs, false⟩ [bz] = 9 := by unfold mayR; rw [hbig]; rfl
                have HLA := Aside0.mk (lapp_calls _ _ _ q p ⟨nA, rs, false⟩ (stF (x) c) (some ⟨w15.heap.size, 0, none⟩) 262145 bz HR16.out.law.2.1 HR16.out.law.1.1 HR16.out.law.2.2.1 (fun h => by rw [hbig] at h; cases h) (fun w' hc => C_block (hc.blk (blk_new w15 _) hnew) HCS.out (by rw [nums_len, HBL.out]; decide)) (by omega) (by omega) (by show nA.size ≤ 20; decide) (by show rs.length ≤ _; have := HSZ.out.2.2; omega))
                rw [show lappR ⟨nA, rs, false⟩ (stF (x) c) bz = 9 from by unfold lappR; rw [hmay]; rfl, HBL.out] at HLA
                clear hb15 HS hmk hcs hbl hnew hbig hmay
                go_wp2_with fail
                refine HLA.out.mono ?_
                rintro e w16 ⟨rfl, A16, B16, hB16⟩
                have HB := Aside0.mk (HR16.out.log hB16).law.1.2.2
                clear hB16 HLA
                go_wp2
                go_ret
                exact ⟨rfl, HB.out⟩
theorem LogFull_row (W : World) (AL AM : Option Addr) (cL cM : Nat) (xs ys : List (List Int)) (c : Int) (hL : Kd.C (Kd.slice 5 (Kd.int .u8)) W AL xs.length xs) (hcL : xs.length ≤ cL) (hx : xs.length * 24 ≤ 140737488351232 ∧ ∀ x ∈ xs, (x.length * 1 ≤ 140737488351232 ∧ ∀ y ∈ x, (Lit.int .u8 y).wf = true)) (hc : (Lit.int .u8 c).wf = true) (hM : Kd.C (Kd.slice 5 (Kd.int .u8)) W AM ys.length ys) (hcM : ys.length ≤ cM) (hy : ys.length * 24 ≤ 140737488351232 ∧ ∀ x ∈ ys, (x.length * 1 ≤ 140737488351232 ∧ ∀ y ∈ x, (Lit.int .u8 y).wf = true)) :
    Calls Try.prog 6 #[.slice AL xs.length cL, .int .u8 c, .slice AM ys.length cM] W fun e w' => e = .returned (.bool true) ∧ Below W.heap.size W w' := by
  obtain ⟨a, rfl⟩ := nums_all xs hx.2
  obtain ⟨b, rfl⟩ := nums_all ys hy.2
  have h1 := hx.1
  have h2 := hy.1
  have h3 := u8_range hc
  have := LogFull_calls W AL AM cL cM a b c (by omega) (by omega) hL hM (by rw [List.length_map] at hcL; exact hcL) (by rw [List.length_map] at hcM; exact hcM) (by rw [List.length_map] at h1; omega) (by rw [List.length_map] at h2; omega)
  rw [List.length_map, List.length_map]
  exact this
end Go.Proofs.Ytipclnniaenciaa.Hand
