/- LogLies, walked by hand. -/
import Derived.Test.YtipclnniaenciaaLogRest
namespace Go.Proofs.Ytipclnniaenciaa.Hand
open Go.RowKit Go.Maps Go.Proofs.YtipclnniaenciaaW.PrintWords Go.Proofs.YtipclnniaenciaaW.PrintLast Go.Proofs.YtipclnniaenciaaW.PrintMore
set_option linter.unusedVariables false
set_option linter.unusedSimpArgs false
def LInv (W w : World) (q p : Nat) (ls : List By) (i : Nat) (v8 v9 : Value) : Prop :=
  ∃ A B C D x, LR W w A B C D q p ⟨nA, ls.take i, false⟩ (stF x 16777216) v8 (frs (ls.take i)) v9 (ls.take i) ∧ x.getD [] = frs (ls.take i) ∧ ∀ y ∈ ls.take i, y.length ≤ 1000
theorem LInv.start {W w : World} {A B : Nat → Prop} {q p : Nat} {ls : List By} (h : Law W w A B q p ⟨nA, [], false⟩ (newS 16777216)) : LInv W w q p ls 0 (.slice none 0 0) (.slice none 0 0) :=
  ⟨A, B, _, _, none, LR.start h, rfl, fun y hy => by cases hy⟩
theorem take_small {m i : Nat} {ls : List By} {y : By} (h : ∀ z ∈ ls.take i, z.length ≤ m) (ht : ls.take (i + 1) = ls.take i ++ [y]) (hy : y.length ≤ m) : ∀ z ∈ ls.take (i + 1), z.length ≤ m := by
  intro z hz
  rw [ht] at hz
  rcases List.mem_append.1 hz with hz | hz
  · exact h z hz
  · rw [List.mem_singleton.1 hz]; exact hy
set_option maxRecDepth 100000 in
set_option maxHeartbeats 16000000 in
theorem LogLies_calls (W : World) (AL AM : Option Addr) (cL cM : Nat) (ls ms : List By) (hL : CR W AL ls) (hM : CR W AM ms) (hcL : ls.length ≤ cL) (hcM : ms.length ≤ cM) (hl : ls.length ≤ 10000000000000) (hm : ms.length ≤ 10000000000000) :
    Calls Try.prog 4 #[.slice AL ls.length cL, .slice AM ms.length cM] W fun e w' => e = .returned (.bool true) ∧ Below W.heap.size W w' := by
  have HL := Aside0.mk hL
  have HM := Aside0.mk hM
  have HCM := Aside0.mk hcM
  clear hL hM
  by_cases h1 : (20 : Int) < ls.length
  · go_enter Try.func4, Try.ntmps4
    go_wp2_with fail
    refine (answers_calls _).mono ?_
    rintro e w4 ⟨rfl, hb4⟩
    have HB4 := Aside0.mk hb4
    clear hb4
    go_wp2
    go_ret
    exact ⟨rfl, HB4.out⟩
  · by_cases h2 : (20 : Int) < ms.length
    · go_enter Try.func4, Try.ntmps4
      go_wp2_with fail
      refine (answers_calls _).mono ?_
      rintro e w4 ⟨rfl, hb4⟩
      have HB4 := Aside0.mk hb4
      clear hb4
      go_wp2
      go_ret
      exact ⟨rfl, HB4.out⟩
    · have HNW := Aside0.mk (fun W => New_law W 16777216)
      go_enter Try.func4, Try.ntmps4
      go_wp2_with fail
      refine (HNW.out _).mono ?_
      rintro e w1 ⟨p, A1, rfl, hD1⟩
      have HO := Aside0.mk (hD1.opnew (by decide))
      clear hD1 HNW
      go_wp2_with fail
      refine HO.out.mono ?_
      rintro e w2 ⟨q, A2, B2, rfl, hL2⟩
      have HL2 := Aside0.mk hL2
      clear hL2 HO
      go_wp2
      go_loopw [8, 9, 10] (fun v8 v9 v10 wr => ∃ i : Nat, v10 = .int .i64 i ∧ i ≤ ls.length ∧ Aside0 (LInv W wr q p ls i v8 v9)) (fun _ _ v10 _ => ls.length - (intOf v10).toNat)
      case atStart => exact ⟨0, rfl, Nat.zero_le _, ⟨LInv.start HL2.out⟩⟩
      case round =>
        obtain ⟨i, rfl, hi, HI⟩ := hrel
        obtain ⟨A, B, C, D, x, hR, hx, hsm⟩ := HI.out
        have HR := Aside0.mk hR
        have HX := Aside0.mk hx
        have HSM := Aside0.mk hsm
        obtain ⟨A8, c8, e8, hl8, hC8⟩ := RB_slice hR.r8
        obtain ⟨n8, hn8⟩ : ∃ n, n = (frs (ls.take i)).length := ⟨_, rfl⟩
        rw [← hn8] at e8 hl8
        subst e8
        obtain ⟨A9, c9, e9, hl9, hC9⟩ := NB_slice hR.r9
        obtain ⟨n9, hn9⟩ : ∃ n, n = (ls.take i).length := ⟨_, rfl⟩
        rw [← hn9] at e9 hl9
        subst e9
        have HN8 := Aside0.mk hn8
        have HN9 := Aside0.mk hn9
        clear HI hR hx hsm hC8 hC9 hn8 hn9
        by_cases hlt : i < ls.length
        · obtain ⟨ad, A1, c1, rfl, hc0, hlc1, hC0⟩ := rec_at HL.out i hlt
          have hc := (HR.out.law.1.2.2.cell (cell_lt' hc0)).trans hc0
          obtain ⟨y, hy⟩ : ∃ y, y = ls[i] := ⟨_, rfl⟩
          have HT := Aside0.mk (show ls.take (i + 1) = ls.take i ++ [y] from by rw [List.take_succ_eq_append_getElem hlt, hy])
          rw [← hy] at hc hlc1 hC0 hc0
          have HC0 := Aside0.mk hC0
          have HCC := Aside0.mk hc0
          clear hy hc0 hC0
          by_cases hbig : (1000 : Int) < y.length
          · go_wp2_with fail
            refine (answers_calls _).mono ?_
            rintro e w4 ⟨rfl, hb4⟩
            have hc4 := (hb4.cell (cell_lt' hc)).trans hc
            have HB4 := Aside0.mk (HR.out.law.1.2.2.trans (hb4.mono HR.out.law.1.2.2.size))
            clear hb4
            go_wp2
            go_ret
            exact ⟨rfl, HB4.out⟩
          · have hsz := frs_small 1000 (ls.take i) HSM.out
            have htl : (ls.take i).length ≤ 20 := by rw [List.length_take]; omega
            have HFZ := Aside0.mk (show (frs (ls.take i)).length ≤ 20160 ∧ (ls.take i).length ≤ 20 from ⟨by omega, htl⟩)
            obtain ⟨e1, e2, e3⟩ := lapp_yes x 16777216 (ls.take i) y (by omega) (by rw [HX.out]; omega)
            have HA := Aside0.mk (HR.out.app HC0.out hlc1 (by omega) (by rw [HX.out]; unfold maxB; omega) (by omega))
            rw [e1, e2, e3, ← HT.out] at HA
            have HX2 := Aside0.mk (show (some (x.getD [] ++ frB y)).getD [] = frs (ls.take (i + 1)) from by rw [HT.out, frs_snoc, ← HX.out]; rfl)
            have hyl : y.length ≤ 1000 := by omega
            clear e1 e2 e3 hsz htl
            go_wp2_with fail
            refine HA.out.mono ?_
            rintro e w4 ⟨rfl, A4, B4, hR4⟩
            have HR4 := Aside0.mk hR4
            have hc4 := (hR4.law.1.2.2.cell (cell_lt' HCC.out)).trans HCC.out
            have HRF := Aside0.mk (refFrame_calls w4 A1 c1 y (Kd.C_below HC0.out hR4.law.1.2.2) hlc1 (by omega))
            clear hR4 hc HA
            go_wp2_with fail
            refine HRF.out.mono ?_
            rintro e w5 ⟨v5, rfl, hF5, hb5⟩
            obtain ⟨A5, c5, e5, hl5, hC5⟩ := RB_slice hF5
            obtain ⟨n5, hn5⟩ : ∃ n, n = (frB y).length := ⟨_, rfl⟩
            rw [← hn5] at e5 hl5
            subst e5
            have HC5 := Aside0.mk hC5
            have HO5 := Aside0.mk (HR4.out.okC hb5)
            have HR5 := Aside0.mk (HR4.out.below hb5)
            have HBS := Aside0.mk hb5.size
            have HNN := Aside0.mk hn5
            have HLX := Aside0.mk (show ((frs (ls.take i)).length + n5) * 1 ≤ 140737488355328 from by rw [HNN.out, frB_len]; have := HFZ.out.1; omega)
            have hc5 := (HR5.out.law.1.2.2.cell (cell_lt' HCC.out)).trans HCC.out
            clear hF5 hb5 hC5 hc4 hn5 HRF
            go_wp2_with (first | ((with_reducible refine gate_builtin (b := .append) (xs := #[.tmp 68, .tmp 73]) rfl ?_); at_builtin; refine Kd.R_append_rows (Kd.int .u8) (Rr := (Kd.int .u8).K w5) (w0 := w5) W.heap.size rfl (.tmp 68) (.tmp 73) 22 5 (.int .u8 0) 1 rfl Try.underlying22 infoU8 rfl (by decide) (by omega) (.slice A8 n8 c8) (numsL (frs (ls.take i))) (numsL (frB y)) A5 n5 c5 (fun k => C k ∨ w5.heap.size ≤ k) (fun _ => False) rfl rfl ?aO ?aR ?aK (fun _ hk => hk.elim) ?aF ?aB ?aS ?aL ?_; (case aO => exact HR5.out.okC (Below.refl _ _)); (case aR => rw [HNN.out]; exact (nums_len (frB y) ▸ HC5.out)); (case aK => exact fun x cs hx => hx); (case aF => exact fun _ hk => .inr hk); (case aB => exact Below.refl _ _); (case aS => exact HR5.out.law.1.2.2.size); (case aL => rw [nums_len]; exact HLX.out); intro v6 w6 ho hb6 hg6 hat; rw [← nums_app, ← frs_snoc, ← HT.out] at ho; have HR6 := Aside0.mk (HR5.out.bytes ho hg6); have hc6 := (HR6.out.law.1.2.2.cell (cell_lt' HCC.out)).trans HCC.out; clear ho hb6 hg6 hat hc5) | ((with_reducible refine gate_builtin (b := .append) (xs := #[.tmp 75, .tmp 80]) rfl ?_); at_builtin; refine Kd.N_append (Kd.slice 5 (Kd.int .u8)) (w0 := w6) (W := w6) 0 rfl (.tmp 75) (.tmp 80) 32 22 (.slice none 0 0) 24 rfl Try.underlying32 infoSl rfl (by decide) (by omega) (.slice A9 n9 c9) ((ls.take i).map numsL) (numsL y) [.slice A1 y.length c1] (fun k => (D k ∨ k < W.heap.size) ∨ w6.heap.size ≤ k) (fun k => k < W.heap.size) rfl rfl ?aM ?aK ?aF ?aO ?aB ?aS ?aL ?_; (case aM => exact HR6.out.elem HC0.out hlc1); (case aK => exact fun k hk => ⟨.inl (.inr hk), fun he => by have := (HR6.out.sets.d k (HR6.out.o9 k he.symm)).1; omega⟩); (case aF => exact fun k hk => .inr hk); (case aO => exact Kd.N_mono HR6.out.r9 (fun k hk => .inl hk)); (case aB => exact Below.refl _ _); (case aS => exact Nat.zero_le _); (case aL => rw [List.length_map, List.length_take]; omega); intro v8 w8 ho8 hb8 hg8 hat8; have ho9 := N_one ho8; rw [← HT.out] at ho9; have HR8 := Aside0.mk (HR6.out.recs ho9 hat8 hg8); clear ho8 ho9 hb8 hg8 hat8 hc6))
            go_roundw
            case rel => exact ⟨i + 1, by go_num, hlt, ⟨_, _, _, _, _, HR8.out, HX2.out, take_small HSM.out HT.out hyl⟩⟩
            case measure => simp [intOf]; omega
        · obtain rfl : i = ls.length := by omega
          rw [List.take_length] at HR HX HSM HN8 HN9
          have hsz := frs_small 1000 ls HSM.out
          have HFZ := Aside0.mk (show (frs ls).length ≤ 20160 ∧ ls.length ≤ 20 from ⟨by omega, by omega⟩)
          have HRD := Aside0.mk (HR.out.read (by rw [HX.out]; unfold maxB; omega))
          clear hsz
          go_wp2_with fail
          refine HRD.out.mono ?_
          rintro e w3 ⟨v3, rfl, hF3, hR3⟩
          rw [HX.out] at hF3
          obtain ⟨A3, c3, rfl, hl3, hC3⟩ := RB_slice hF3
          obtain ⟨A8', c8', e8, hl8', hC8⟩ := RB_slice hR3.r8
          rw [← HN8.out] at e8
          injection e8 with e8 e8' e8''
          subst e8 e8''
          have HR3 := Aside0.mk hR3
          have HS := Aside0.mk (same_yes hC3 hC8 hl3 hl8' (by have := HFZ.out.1; omega) rfl)
          rw [← HN8.out] at HS hl3
          rw [← HN8.out]
          have HRC := Aside0.mk (fun w (h : Below w3.heap.size w3 w) => (HR3.out.below h).recs' (by have := HFZ.out.2; omega) (fun y hy => by have := HSM.out y hy; omega))
          clear hF3 hR3 hC3 hC8 HRD
          go_wp2_with fail
          refine HS.out.mono ?_
          rintro e w4 ⟨rfl, hb4⟩
          have HRC4 := Aside0.mk (HRC.out _ hb4)
          clear HRC HS hb4
          go_wp2_with fail
          refine HRC4.out.mono ?_
          rintro e w5 ⟨v5, rfl, hn5, hR5⟩
          obtain ⟨A5, c5, rfl, hl5, hC5⟩ := NB_slice hn5
          obtain ⟨A9', c9', e9, hl9', hC9⟩ := NB_slice hR5.r9
          rw [← HN9.out] at e9
          injection e9 with e9 e9' e9''
          subst e9 e9''
          have HR5 := Aside0.mk hR5
          have HS := Aside0.mk (sameAll_yes hC5 hC9 hl5 hl9' (by have := HFZ.out.2; omega) (fun y hy => by have := HSM.out y hy; omega) rfl)
          rw [← HN9.out] at HS hl5
          rw [← HN9.out]
          clear hn5 hR5 hC5 hC9 HRC4
          go_wp2_with fail
          refine HS.out.mono ?_
          rintro e w6 ⟨rfl, hb6⟩
          have HR6 := Aside0.mk (HR5.out.below hb6).drop8
          clear HS hb6
          go_wp2
          go_loopw [8, 13] (fun v8 v13 wr => ∃ j : Nat, v13 = .int .i64 j ∧ j ≤ ms.length ∧ Aside0 ((∀ y ∈ ms.take j, y.length ≤ 1000) ∧ ∃ C, LR W wr A B C D q p ⟨nA, ls, false⟩ (stF x 16777216) v8 (frs (ms.take j)) (.slice A9 n9 c9) ls)) (fun _ v13 _ => ms.length - (intOf v13).toNat)
          case atStart => exact ⟨0, rfl, Nat.zero_le _, ⟨(fun y hy => by cases hy), _, HR6.out⟩⟩
          case round =>
            obtain ⟨j, rfl, hj, HI⟩ := hrel
            obtain ⟨hsm, C7, hR⟩ := HI.out
            have HR7 := Aside0.mk hR
            have HSM7 := Aside0.mk hsm
            obtain ⟨A7, c7, e7, hl7, hC7⟩ := RB_slice hR.r8
            obtain ⟨n7, hn7⟩ : ∃ n, n = (frs (ms.take j)).length := ⟨_, rfl⟩
            rw [← hn7] at e7 hl7
            subst e7
            have HN7 := Aside0.mk hn7
            clear HI hR hsm hC7 hn7
            by_cases hlt : j < ms.length
            · obtain ⟨ad, A1, c1, rfl, hc0, hlc1, hC0⟩ := rec_at HM.out j hlt
              have hc := (HR7.out.law.1.2.2.cell (cell_lt' hc0)).trans hc0
              obtain ⟨y, hy⟩ : ∃ y, y = ms[j] := ⟨_, rfl⟩
              have HT := Aside0.mk (show ms.take (j + 1) = ms.take j ++ [y] from by rw [List.take_succ_eq_append_getElem hlt, hy])
              rw [← hy] at hc hlc1 hC0 hc0
              have HC0 := Aside0.mk hC0
              have HCC := Aside0.mk hc0
              clear hy hc0 hC0
              by_cases hbig : (1000 : Int) < y.length
              · go_wp2_with fail
                refine (answers_calls _).mono ?_
                rintro e w4 ⟨rfl, hb4⟩
                have HB4 := Aside0.mk (HR7.out.law.1.2.2.trans (hb4.mono HR7.out.law.1.2.2.size))
                clear hb4
                go_wp2
                go_ret
                exact ⟨rfl, HB4.out⟩
              · have hsz := frs_small 1000 (ms.take j) HSM7.out
                have htl : (ms.take j).length ≤ 20 := by rw [List.length_take]; omega
                have HFY := Aside0.mk (show (frs (ms.take j)).length ≤ 20160 from by omega)
                have hyl : y.length ≤ 1000 := by omega
                have HRF := Aside0.mk (refFrame_calls wr A1 c1 y (Kd.C_below HC0.out HR7.out.law.1.2.2) hlc1 (by omega))
                clear hsz htl
                go_wp2_with fail
                refine HRF.out.mono ?_
                rintro e w5 ⟨v5, rfl, hF5, hb5⟩
                obtain ⟨A5, c5, e5, hl5, hC5⟩ := RB_slice hF5
                obtain ⟨n5, hn5⟩ : ∃ n, n = (frB y).length := ⟨_, rfl⟩
                rw [← hn5] at e5 hl5
                subst e5
                have HC5 := Aside0.mk hC5
                have HR5 := Aside0.mk (HR7.out.below hb5)
                have HNN := Aside0.mk hn5
                have HLX := Aside0.mk (show ((frs (ms.take j)).length + n5) * 1 ≤ 140737488355328 from by rw [HNN.out, frB_len]; have := HFY.out; omega)
                clear hF5 hb5 hC5 hc hn5 HRF
                go_wp2_with ((with_reducible refine gate_builtin (b := .append) (xs := #[.tmp 111, .tmp 116]) rfl ?_); at_builtin; refine Kd.R_append_rows (Kd.int .u8) (Rr := (Kd.int .u8).K w5) (w0 := w5) W.heap.size rfl (.tmp 111) (.tmp 116) 22 5 (.int .u8 0) 1 rfl Try.underlying22 infoU8 rfl (by decide) (by omega) (.slice A7 n7 c7) (numsL (frs (ms.take j))) (numsL (frB y)) A5 n5 c5 (fun k => C7 k ∨ w5.heap.size ≤ k) (fun _ => False) rfl rfl ?aO ?aR ?aK (fun _ hk => hk.elim) ?aF ?aB ?aS ?aL ?_; (case aO => exact HR5.out.okC (Below.refl _ _)); (case aR => rw [HNN.out]; exact (nums_len (frB y) ▸ HC5.out)); (case aK => exact fun x cs hx => hx); (case aF => exact fun _ hk => .inr hk); (case aB => exact Below.refl _ _); (case aS => exact HR5.out.law.1.2.2.size); (case aL => rw [nums_len]; exact HLX.out); intro v6 w6 ho hb6 hg6 hat; rw [← nums_app, ← frs_snoc, ← HT.out] at ho; have HR8 := Aside0.mk (HR5.out.bytes ho hg6); clear ho hb6 hg6 hat)
                go_roundw
                case rel => exact ⟨j + 1, by go_num, hlt, ⟨take_small HSM7.out HT.out hyl, _, HR8.out⟩⟩
                case measure => simp [intOf]; omega
            · obtain rfl : j = ms.length := by omega
              rw [List.take_length] at HR7 HSM7 HN7
              have hsz := frs_small 1000 ms HSM7.out
              have HFY := Aside0.mk (show (frs ms).length ≤ 20160 ∧ ms.length ≤ 20 from ⟨by omega, by omega⟩)
              obtain ⟨e1, e2, e3⟩ := lcom_yes x 16777216 ls ms (fun y hy => by have := HSM7.out y hy; omega) (by rw [HX.out]; have := HFY.out.1; have := HFZ.out.1; omega)
              have HA := Aside0.mk (HR7.out.com HM.out hcM (by omega) (by omega) (by rw [HX.out]; have := HFZ.out.1; unfold maxB; omega))
              rw [e1, e2, e3] at HA
              clear e1 e2 e3 hsz
              go_wp2_with fail
              refine HA.out.mono ?_
              rintro e w8 ⟨rfl, A8', B8', hR8⟩
              have HR8 := Aside0.mk hR8
              have HRD := Aside0.mk (hR8.read (by show (frs ms).length ≤ _; have := HFY.out.1; unfold maxB; omega))
              clear hR8 HA
              go_wp2_with fail
              refine HRD.out.mono ?_
              rintro e w9 ⟨v9, rfl, hF9, hR9⟩
              obtain ⟨Az, cz, rfl, hlz, hCz⟩ := RB_slice (show RB w9 _ _ v9 (frs ms) from hF9)
              have HR9 := Aside0.mk hR9
              have HCZ := Aside0.mk hCz
              clear hF9 hR9 hCz HRD
              go_wp2_with fail
              refine (answers_calls _).mono ?_
              rintro e w10 ⟨rfl, hb10⟩
              have HR10 := Aside0.mk (HR9.out.below hb10)
              have hCz := Kd.C_below HCZ.out hb10
              obtain ⟨A8'', c8'', e8, hl8'', hC8⟩ := RB_slice HR10.out.r8
              rw [← HN7.out] at e8
              injection e8 with e8 e8' e8''
              subst e8 e8''
              have HS := Aside0.mk (same_yes hCz hC8 hlz hl8'' (by have := HFY.out.1; omega) rfl)
              rw [← HN7.out] at HS hlz
              rw [← HN7.out]
              clear hb10 hCz hC8
              go_wp2_with fail
              refine HS.out.mono ?_
              rintro e w11 ⟨rfl, hb11⟩
              have HR11 := Aside0.mk (HR10.out.below hb11)
              have HRC := Aside0.mk (HR11.out.recs' (by have := HFY.out.2; omega) (fun y hy => by have := HSM7.out y hy; omega))
              clear hb11 HS
              go_wp2_with fail
              refine HRC.out.mono ?_
              rintro e w12 ⟨v12, rfl, hn12, hR12⟩
              obtain ⟨Ay, cy, rfl, hly, hCy⟩ := NB_slice hn12
              have HR12 := Aside0.mk hR12
              have HS := Aside0.mk (sameAll_yes hCy (Kd.C_below HM.out hR12.law.1.2.2) hly HCM.out (by have := HFY.out.2; omega) (fun y hy => by have := HSM7.out y hy; omega) rfl)
              clear hn12 hR12 hCy HRC
              go_wp2_with fail
              refine HS.out.mono ?_
              rintro e w13 ⟨rfl, hb13⟩
              have HR13 := Aside0.mk (HR12.out.below hb13)
              have HU := Aside0.mk (HR13.out.law.1.1.usd (stF_fit _ _ 0 0 (by show (frs ms).length + 0 ≤ _; have := HFY.out.1; unfold maxB; omega) (by decide)).ok)
              rw [show used (stF (some (frs ms)) 16777216).now = n7 from by rw [HN7.out]; exact used_fA (some (frs ms))] at HU
              clear hb13 HS
              go_wp2_with fail
              refine HU.out.mono ?_
              rintro e w14 ⟨rfl, hb14⟩
              have HB := Aside0.mk (HR13.out.below hb14).law.1.2.2
              clear hb14 HU
              go_wp2
              go_ret
              exact ⟨rfl, HB.out⟩
theorem LogLies_row (W : World) (AL AM : Option Addr) (cL cM : Nat) (xs ys : List (List Int)) (hL : Kd.C (Kd.slice 5 (Kd.int .u8)) W AL xs.length xs) (hcL : xs.length ≤ cL) (hx : xs.length * 24 ≤ 140737488351232 ∧ ∀ x ∈ xs, (x.length * 1 ≤ 140737488351232 ∧ ∀ y ∈ x, (Lit.int .u8 y).wf = true)) (hM : Kd.C (Kd.slice 5 (Kd.int .u8)) W AM ys.length ys) (hcM : ys.length ≤ cM) (hy : ys.length * 24 ≤ 140737488351232 ∧ ∀ x ∈ ys, (x.length * 1 ≤ 140737488351232 ∧ ∀ y ∈ x, (Lit.int .u8 y).wf = true)) :
    Calls Try.prog 4 #[.slice AL xs.length cL, .slice AM ys.length cM] W fun e w' => e = .returned (.bool true) ∧ Below W.heap.size W w' := by
  obtain ⟨a, rfl⟩ := nums_all xs hx.2
  obtain ⟨b, rfl⟩ := nums_all ys hy.2
  have h1 := hx.1
  have h2 := hy.1
  have := LogLies_calls W AL AM cL cM a b hL hM (by rw [List.length_map] at hcL; exact hcL) (by rw [List.length_map] at hcM; exact hcM) (by rw [List.length_map] at h1; omega) (by rw [List.length_map] at h2; omega)
  rw [List.length_map, List.length_map]
  exact this
end Go.Proofs.Ytipclnniaenciaa.Hand
