/- LineParts, walked by hand. -/
import Derived.Test.YtgpchkkdpljonaaLineSt
import Derived.Test.YtgpchkkdpljonaaWLast
import Derived.Test.YtgpchkkdpljonaaWRepsOne
import Derived.Test.YtgpchkkdpljonaaWEqStruct
namespace Go.Proofs.Ytgpchkkdpljonaa.Hand
open Go.RowKit Go.Proofs.YtgpchkkdpljonaaW.PrintWords Go.Proofs.YtgpchkkdpljonaaW.PrintLast Go.Proofs.YtgpchkkdpljonaaW.PrintMore Go.Proofs.Ytgpchkkdpljonaa.PY
set_option linter.unusedVariables false
set_option linter.unusedSimpArgs false
theorem eqLine (d : Nat) (w : World) (x0 y0 : Int) (x1 y1 : ByteArray) :
    (Op.equalIn (d + 2) 29 (.agg #[.int .i64 x0, .string x1]) (.agg #[.int .i64 y0, .string y1])).run Try.prog w = .ok (x0 == y0 && (x1.toList == y1.toList)) w := by
  refine eqA_of Try.underlying29 (by kernel_rfl) ?_
  refine eqf_cons (by rfl) (by go_simp; rfl) (by go_simp; rfl) (by go_simp) ?_
  exact eqf_last (by rfl) (by go_simp; rfl) (by go_simp; rfl) (by go_simp)
attribute [local go_sem high] eqLine
set_option maxRecDepth 100000 in
set_option maxHeartbeats 8000000 in
theorem LineParts_calls (A : Option Addr) (c : Nat) (b : List UInt8) (A2 : Option Addr) (c2 : Nat) (ps : List Int) (most m : Int) (w : World) (hr : Kd.C (Kd.int .u8) w A (numsL b).length (numsL b)) (hc : b.length ≤ c) (hr2 : Kd.C (Kd.int .u8) w A2 ps.length ps) (hc2 : ps.length ≤ c2) (hps : ∀ x ∈ ps, (Lit.int .u8 x).wf = true) (hm : w.cell? ⟨0, 0, none⟩ = some (.int .i64 m)) :
    Calls Try.prog 3 #[.slice A b.length c, .slice A2 ps.length c2, .int .i64 most] w fun e w' => e = .returned (.bool true) ∧ Below w.heap.size w w' := by
  have h0 := World.block_lt_of_cell? w _ hm
  have HA : Aside0 (∀ W, Below w.heap.size w W → Calls Try.prog 7 #[] W fun e w' => e = .returned (.bool true) ∧ Below W.heap.size W w') := ⟨fun W hW => answers_calls W m ((hW.cell (p := ⟨0, 0, none⟩) h0).trans hm)⟩
  have HM := Aside0.mk hm
  have HR := Aside0.mk hr
  have HR2 := Aside0.mk hr2
  clear hm hr hr2
  by_cases hl1 : 4000 < b.length
  · have hd1 : decide (4000 < (b.length : Int)) = true := decide_eq_true (by omega)
    go_enter Try.func3, Try.ntmps3
    go_wp2_with (go_at_call 7; refine (HA.out _ (Below.refl _ _)).mono ?_; rintro e w3 ⟨rfl, hb3⟩; have HB3 := Aside0.mk hb3; clear hb3)
    go_ret
    exact ⟨rfl, HB3.out⟩
  by_cases hl2 : ps.length = 0
  · have hd1 : decide (4000 < (b.length : Int)) = false := decide_eq_false (by omega)
    have hd2 : ((ps.length : Int) == 0) = true := by rw [beq_iff_eq]; omega
    go_enter Try.func3, Try.ntmps3
    go_wp2_with (go_at_call 7; refine (HA.out _ (Below.refl _ _)).mono ?_; rintro e w3 ⟨rfl, hb3⟩; have HB3 := Aside0.mk hb3; clear hb3)
    go_ret
    exact ⟨rfl, HB3.out⟩
  by_cases hl3 : 100 < ps.length
  · have hd1 : decide (4000 < (b.length : Int)) = false := decide_eq_false (by omega)
    have hd2 : ((ps.length : Int) == 0) = false := by rw [beq_eq_false_iff_ne]; omega
    have hd3 : decide (100 < (ps.length : Int)) = true := decide_eq_true (by omega)
    go_enter Try.func3, Try.ntmps3
    go_wp2_with (go_at_call 7; refine (HA.out _ (Below.refl _ _)).mono ?_; rintro e w3 ⟨rfl, hb3⟩; have HB3 := Aside0.mk hb3; clear hb3)
    go_ret
    exact ⟨rfl, HB3.out⟩
  · have hl1 : b.length ≤ 4000 := by omega
    have hl2 : 0 < ps.length := by omega
    have hl3 : ps.length ≤ 100 := by omega
    have hd1 : decide (4000 < (b.length : Int)) = false := decide_eq_false (by omega)
    have hd2 : ((ps.length : Int) == 0) = false := by rw [beq_eq_false_iff_ne]; omega
    have hd3 : decide (100 < (ps.length : Int)) = false := decide_eq_false (by omega)
    go_enter Try.func3, Try.ntmps3
    go_wp2_with fail
    refine (New_calls _).mono ?_
    rintro e w2 ⟨rfl, rfl⟩
    go_wp2_with fail
    have HS0 := Aside0.mk (St.new w w.heap.size (Nat.le_refl _))
    have HB0 := Aside0.mk (below_alloc (Below.refl w.heap.size w) (.cells #[.slice none 0 0] 42))
    go_loopw [8, 9, 10] (fun v8 v9 v10 wr => ∃ (q i : Nat) (vr : Value), v9 = .int .i64 q ∧ v10 = .int .i64 i ∧ q ≤ b.length ∧ i ≤ q ∧ Aside0 (Below w.heap.size w wr ∧ St wr w.heap.size w.heap.size vr v8 (linesL most (b.take q)).2 (linesL most (b.take q)).1)) (fun v8 v9 v10 _ => b.length - (intOf v9).toNat)
    case atStart => exact ⟨0, 0, _, rfl, rfl, Nat.zero_le _, Nat.le_refl _, ⟨HB0.out, HS0.out⟩⟩
    case round =>
      obtain ⟨q, i, vr, rfl, rfl, hq, hiq, HI⟩ := hrel
      have HIB := Aside0.mk HI.out.1
      have HIS := Aside0.mk HI.out.2
      clear HI
      obtain ⟨Ag, cg, rfl⟩ := Kd.R_slice HIS.out.got
      by_cases hlt : q < b.length
      · obtain ⟨j, hmod, hj⟩ : ∃ j : Nat, (i : Int) % (ps.length : Int) = (j : Int) ∧ j < ps.length := ⟨i % ps.length, by omega, Nat.mod_lt _ hl2⟩
        obtain ⟨x, hx, hx2⟩ : ∃ x : Nat, rd ps (j : Int) = (x : Int) ∧ x ≤ 255 := by
          have hmem : rd ps (j : Int) ∈ ps := by
            unfold rd
            rw [Int.toNat_natCast, List.getD_eq_getElem?_getD, List.getElem?_eq_getElem hj]
            exact List.getElem_mem hj
          have hb : 0 ≤ rd ps (j : Int) ∧ rd ps (j : Int) ≤ 255 := by
            have := hps _ hmem
            simpa [Lit.wf, IntKind.min, IntKind.max, IntKind.signed, IntKind.bits] using this
          exact ⟨(rd ps (j : Int)).toNat, by omega, by omega⟩
        obtain ⟨ad2, rfl, hc2x⟩ := Kd.at_int HR2.out (j : Int) (by omega) (by omega)
        rw [hx, Int.toNat_natCast] at hc2x
        have hc2r := pw_cell_below HIB.out hc2x
        have HX := Aside0.mk hx
        clear hx hc2x
        by_cases hbig : b.length < q + x + 1
        · have hqe : q < b.length := hlt
          have heb : b.length ≤ b.length := Nat.le_refl _
          have hbd : decide ((b.length : Int) < (q : Int) + (x : Int) + 1) = true := decide_eq_true (by omega)
          have HIN := Aside0.mk (C_part HR.out c q b.length hlt (by omega) (by omega) hc)
          have hxl : ((b.drop q).take (b.length - q)).length = b.length - q := by rw [List.length_take, List.length_drop]; omega
          obtain ⟨xs, hxs⟩ : ∃ xs, xs = (b.drop q).take (b.length - q) := ⟨_, rfl⟩
          rw [← hxs] at HIN hxl
          have HXS := Aside0.mk hxs
          clear hxs
          go_wp2_with ((with_reducible refine gate_builtin (b := .append) (xs := #[.tmp 59, .tmp 63]) rfl ?_); at_builtin; refine Kd.R_append_rows (Kd.int .u8) (Rr := (Kd.int .u8).K (wr.alloc (.cells #[] 5))) (w0 := wr) wr.heap.size rfl (.tmp 59) (.tmp 63) 22 5 (.int .u8 0) 1 rfl Try.underlying22 infoU8 rfl (by decide) (by omega) (.slice (some ⟨wr.heap.size, 0, none⟩) 0 0) [] (numsL xs) (A.map (·.add q)) (b.length - q) (c - q) (fun _ => True) (fun _ => False) rfl rfl ?aO ?aR ?aK (fun _ hk => hk.elim) (fun _ _ => trivial) ?aB ?aS ?aL ?_; (case aO => exact R_empty wr _ (Nat.le_refl _)); (case aR => exact Kd.C_below HIN.out (below_alloc HIB.out _)); (case aK => exact fun x cs hx => hx); (case aB => exact below_alloc (Below.refl _ _) _); (case aS => exact (below_alloc (Below.refl wr.heap.size wr) _).size); (case aL => show (0 + (b.length - q)) * 1 ≤ _; omega); intro v1 w1 ho hb1 hg hat; rw [List.nil_append] at ho; obtain ⟨g, cap, rfl, hgb, hgl, hgc, hgC⟩ := R_block ho (by rw [nums_len]; omega); rw [nums_len, hxl] at ho hgC hgc ⊢; have HO := Aside0.mk ho; have HB1 := Aside0.mk hb1; have HGC := Aside0.mk hgC; clear ho hb1 hg hat hgC)
          have hxp : 0 < b.length - q := by omega
          have hrl := linesL_len most q (b.take q) (by rw [List.length_take]; omega)
          rw [List.length_take] at hrl
          have HBW1 := Aside0.mk (HIB.out.trans (HB1.out.mono HIB.out.size))
          have hF := (HIS.out.below HB1.out).Feed HBW1.out.size (some ⟨g, 0, none⟩) cap xs (by rw [nums_len, hxl]; exact HGC.out) (by omega)
          rw [nums_len, hxl] at hF
          have HF := Aside0.mk hF
          clear hF
          have hpw := blk_lt HIS.out.cell
          have hvr := fun k hk => R_lt HIS.out.row k hk
          have hvg := fun k hk => R_lt HIS.out.got k hk
          refine HF.out.mono ?_
          rintro e w2 ⟨v2, rfl, hS2, hb2, hk2, hv2⟩
          have hO2 := R_same (d := Kd.int .u8) rfl HO.out (fun k ho hl => hk2.2 k hl (fun e => by
            have e1 : g = k := by simpa [Value.ownBlock] using ho
            subst e1
            rcases e with e | e
            · omega
            · have := hvr g e.symm
              omega))
          have hgv : g ≠ w.heap.size ∧ v2.ownBlock ≠ some g ∧ (Value.slice Ag (linesL most (b.take q)).1.length cg).ownBlock ≠ some g := ⟨by omega, fun e => (hv2 g e).elim (fun e => by have := hvr g e; omega) (fun e => by omega), fun e => by have := hvg g e; omega⟩
          have HS2 := Aside0.mk hS2
          have HO2 := Aside0.mk hO2
          have HB2 := Aside0.mk (HBW1.out.trans hb2)
          have HGV := Aside0.mk hgv
          clear hS2 hb2 hk2 hv2 hO2 hgv hpw hvr hvg HF HO
          go_wp2_with fail
          go_loopw [13] (fun v13 w3 => ∃ k : Nat, v13 = .int .i64 k ∧ k ≤ b.length - q ∧ Aside0 (Kept w2 w3 (fun k => k = g) ∧ Below w.heap.size w w3 ∧ ∃ ys : List Int, Kd.R (Kd.int .u8) 5 w3 wr.heap.size (fun _ => True) (.slice (some ⟨g, 0, none⟩) (b.length - q) cap) ys)) (fun v13 _ => (b.length - q) - (intOf v13).toNat)
          case atStart => exact ⟨0, rfl, Nat.zero_le _, ⟨Kept.refl _ _, HB2.out, _, HO2.out⟩⟩
          case round =>
            obtain ⟨k, rfl, hk, HK⟩ := hrel
            by_cases hkl : k < b.length - q
            · obtain ⟨ys, hys⟩ := HK.out.2.2
              obtain ⟨hc3, hf3⟩ := Kd.R_celln (0 : Int) hys (k : Int) (by omega) (by omega)
              have hp3 := Kd.R_putg hys (k : Int) 120
              rw [Int.toNat_natCast] at hc3 hf3 hp3
              have HP3 := Aside0.mk hp3
              clear hys hp3
              go_wp2
              go_roundw
              case rel =>
                refine ⟨k + 1, by go_num, by omega, ⟨Kept.of_grown HP3.out.2 HK.out.1 (fun k hk => .inl (by injection hk with hk; exact hk.symm)), ?_, _, HP3.out.1⟩⟩
                exact pw_below_grown HK.out.2.1 (some g) HK.out.2.1.size HP3.out.2 (fun k hk => by injection hk with hk; have := HIB.out.size; omega)
              case measure => simp [intOf]; omega
            · obtain rfl : k = b.length - q := by omega
              go_wp2_with fail
              have hS3 := HS2.out.other HK.out.1 HGV.out
              have hT : linesL most (b.take b.length) = ((linesL most (b.take q)).1 ++ (linesL most ((linesL most (b.take q)).2 ++ xs)).1, (linesL most ((linesL most (b.take q)).2 ++ xs)).2) := by
                rw [take_part b q b.length (by omega), ← HXS.out]
                exact linesL_app most xs _ _ (Nat.le_refl _)
              have hT2 := linesL_len most _ (b.take b.length) (Nat.le_refl _)
              have hT3 : (b.take b.length).length ≤ b.length := by rw [List.length_take]; omega
              have HS3 := Aside0.mk hS3
              have HB3 := Aside0.mk HK.out.2.1
              have HT := Aside0.mk hT
              have HLL := Aside0.mk (show ((linesL most (b.take q)).2 ++ xs).length ≤ b.length by rw [List.length_append]; omega)
              clear hS3 hT HK HS2 HB2 HGV HGC HO2
              go_loopw [8] (fun v8 w4 => ∃ (vr : Value) (l : List UInt8) (ls : List LS), Aside0 (Below w.heap.size w w4) ∧ Aside0 (St w4 w.heap.size w.heap.size vr v8 l ls) ∧ Aside0 (linesL most (b.take b.length) = (ls ++ (linesL most l).1, (linesL most l).2)) ∧ Aside0 (l.length ≤ b.length)) (fun v8 _ => b.length - sliceLen v8)
              case atStart => exact ⟨_, _, _, HB3, HS3, HT, HLL⟩
              case round =>
                obtain ⟨vr4, l, ls, HB4, HS4, HT4, HL4⟩ := hrel
                obtain ⟨Ag4, cg4, rfl⟩ := Kd.R_slice HS4.out.got
                go_wp2_with fail
                have hm4 := (HB4.out.cell (p := ⟨0, 0, none⟩) h0).trans HM.out
                have hN := HS4.out.Next HB4.out.size most m (by have := HL4.out; omega) hm4
                by_cases hi : 0 ≤ Lib.index l [13, 10]
                · obtain ⟨sl, r, hnx, hll, hrl2⟩ := next_lines most l hi
                  rw [hnx] at hN
                  refine hN.mono ?_
                  rintro e w5 ⟨v5, rfl, hS5, hb5⟩
                  have HS5 := Aside0.mk (hS5.below (below_alloc (Below.refl _ _) (.cells #[.int .i64 sl.f0, .string sl.f1] 29)))
                  have HB5 := Aside0.mk (HB4.out.trans hb5)
                  have HLL5 := Aside0.mk hll
                  clear hS5 hb5 hll hN hm4 hnx
                  have hcnt : 2 * (ls.length + 1) ≤ b.length := by
                    have h1 := hT2
                    rw [HT4.out, HLL5.out] at h1
                    simp at h1
                    omega
                  go_wp2_with ((with_reducible refine gate_builtin (b := .append) (xs := #[.tmp 86, .tmp 88]) rfl ?_); at_builtin; refine Kd.R_append k29 (w0 := w) w.heap.size rfl (.tmp 86) (.tmp 88) 26 29 (.agg #[(.int .i64 0), (.string ⟨#[]⟩)]) 24 rfl Try.underlying26 info29 rfl (by decide) (by omega) (.slice Ag4 ls.length cg4) ls sl [.int .i64 sl.f0, .string sl.f1] (fun _ => True) (fun _ => False) rfl ?aX ?aP (fun _ hk => hk.elim) (fun _ _ => trivial) ?aO ?aB ?aS ?aL ?_; (case aX => exact congrArg (fun k => Value.slice (some ⟨k, 0, none⟩) 1 1) (Array.size_push ..).symm); (case aP => exact k29_mkM _ _ _ sl); (case aO => exact HS5.out.got); (case aB => exact HB5.out.alloc HB5.out.size _); (case aS => exact (HB5.out.alloc HB5.out.size _).size); (case aL => omega); intro v6 w6 ho hb6 hg6 hat6; have hS6 := HS5.out.append ho hg6 hat6; obtain ⟨A6, c6, rfl⟩ := Kd.R_slice ho; rw [List.length_append, List.length_singleton] at hS6 ⊢; have HS6 := Aside0.mk hS6; have HB6 := Aside0.mk hb6; clear ho hb6 hg6 hat6 hS6)
                  go_roundw
                  case rel =>
                    refine ⟨v5, r, ls ++ [sl], HB6, HS6, ⟨?_⟩, ⟨by have := HL4.out; omega⟩⟩
                    rw [HT4.out, HLL5.out]
                    simp
                  case measure =>
                    simp [sliceLen]
                    omega
                · obtain ⟨hnx, hll⟩ := next_no most l hi
                  rw [hnx] at hN
                  refine hN.mono ?_
                  rintro e w5 ⟨v5, rfl, hS5, hb5⟩
                  have HS5 := Aside0.mk (hS5.below (below_alloc (Below.refl _ _) (.cells #[.int .i64 0, .string ⟨#[]⟩] 29)))
                  have HB5 := Aside0.mk (HB4.out.trans hb5)
                  have HLL5 := Aside0.mk hll
                  clear hS5 hb5 hll hN hm4 hnx
                  have hT5 : linesL most (b.take b.length) = (ls, l) := by
                    rw [HT4.out, HLL5.out]
                    simp
                  have hBA : Below w.heap.size w (w5.alloc (.cells #[.int .i64 0, .string ⟨#[]⟩] 29)) := HB5.out.alloc HB5.out.size _
                  have hLn := lines_at (Kd.C_below HR.out hBA) hc b.length (by omega) (by omega) most
                  rw [hT5] at hLn
                  have HLN := Aside0.mk hLn
                  have HT5 := Aside0.mk hT5
                  have HBA := Aside0.mk hBA
                  clear hLn hT5 hBA
                  go_wp2_with fail
                  refine HLN.out.mono ?_
                  rintro e w6 ⟨v0, A6, c6, rfl, -, hb6⟩
                  have HS6 := Aside0.mk (HS5.out.below hb6)
                  have HB6 := Aside0.mk (HBA.out.trans (hb6.mono HBA.out.size))
                  have HLF := Aside0.mk (Left_calls w6 _ _ _ _ HS6.out.rdr)
                  clear hb6 HLN
                  go_wp2_with fail
                  refine HLF.out.mono ?_
                  rintro e w7 ⟨rfl, rfl⟩
                  go_wp2
                  go_roundw
                  case rel =>
                    refine ⟨b.length, i + 1, v5, rfl, by go_num, by omega, by omega, ⟨HB6.out, ?_⟩⟩
                    rw [HT5.out]
                    exact HS6.out
                  case measure => simp [intOf]; omega
        · obtain ⟨en, hen⟩ : ∃ en, en = q + x + 1 := ⟨_, rfl⟩
          have hsum : (q : Int) + (x : Int) + 1 = (en : Int) := by omega
          have hbd : decide ((b.length : Int) < (en : Int)) = false := decide_eq_false (by omega)
          have hqe : q < en := by omega
          have heb : en ≤ b.length := by omega
          clear hen
          have HIN := Aside0.mk (C_part HR.out c q en hlt (by omega) (by omega) hc)
          have hxl : ((b.drop q).take (en - q)).length = en - q := by rw [List.length_take, List.length_drop]; omega
          obtain ⟨xs, hxs⟩ : ∃ xs, xs = (b.drop q).take (en - q) := ⟨_, rfl⟩
          rw [← hxs] at HIN hxl
          have HXS := Aside0.mk hxs
          clear hxs
          go_wp2_with ((with_reducible refine gate_builtin (b := .append) (xs := #[.tmp 59, .tmp 63]) rfl ?_); at_builtin; refine Kd.R_append_rows (Kd.int .u8) (Rr := (Kd.int .u8).K (wr.alloc (.cells #[] 5))) (w0 := wr) wr.heap.size rfl (.tmp 59) (.tmp 63) 22 5 (.int .u8 0) 1 rfl Try.underlying22 infoU8 rfl (by decide) (by omega) (.slice (some ⟨wr.heap.size, 0, none⟩) 0 0) [] (numsL xs) (A.map (·.add q)) (en - q) (c - q) (fun _ => True) (fun _ => False) rfl rfl ?aO ?aR ?aK (fun _ hk => hk.elim) (fun _ _ => trivial) ?aB ?aS ?aL ?_; (case aO => exact R_empty wr _ (Nat.le_refl _)); (case aR => exact Kd.C_below HIN.out (below_alloc HIB.out _)); (case aK => exact fun x cs hx => hx); (case aB => exact below_alloc (Below.refl _ _) _); (case aS => exact (below_alloc (Below.refl wr.heap.size wr) _).size); (case aL => show (0 + (en - q)) * 1 ≤ _; omega); intro v1 w1 ho hb1 hg hat; rw [List.nil_append] at ho; obtain ⟨g, cap, rfl, hgb, hgl, hgc, hgC⟩ := R_block ho (by rw [nums_len]; omega); rw [nums_len, hxl] at ho hgC hgc ⊢; have HO := Aside0.mk ho; have HB1 := Aside0.mk hb1; have HGC := Aside0.mk hgC; clear ho hb1 hg hat hgC)
          have hxp : 0 < en - q := by omega
          have hrl := linesL_len most q (b.take q) (by rw [List.length_take]; omega)
          rw [List.length_take] at hrl
          have HBW1 := Aside0.mk (HIB.out.trans (HB1.out.mono HIB.out.size))
          have hF := (HIS.out.below HB1.out).Feed HBW1.out.size (some ⟨g, 0, none⟩) cap xs (by rw [nums_len, hxl]; exact HGC.out) (by omega)
          rw [nums_len, hxl] at hF
          have HF := Aside0.mk hF
          clear hF
          have hpw := blk_lt HIS.out.cell
          have hvr := fun k hk => R_lt HIS.out.row k hk
          have hvg := fun k hk => R_lt HIS.out.got k hk
          refine HF.out.mono ?_
          rintro e w2 ⟨v2, rfl, hS2, hb2, hk2, hv2⟩
          have hO2 := R_same (d := Kd.int .u8) rfl HO.out (fun k ho hl => hk2.2 k hl (fun e => by
            have e1 : g = k := by simpa [Value.ownBlock] using ho
            subst e1
            rcases e with e | e
            · omega
            · have := hvr g e.symm
              omega))
          have hgv : g ≠ w.heap.size ∧ v2.ownBlock ≠ some g ∧ (Value.slice Ag (linesL most (b.take q)).1.length cg).ownBlock ≠ some g := ⟨by omega, fun e => (hv2 g e).elim (fun e => by have := hvr g e; omega) (fun e => by omega), fun e => by have := hvg g e; omega⟩
          have HS2 := Aside0.mk hS2
          have HO2 := Aside0.mk hO2
          have HB2 := Aside0.mk (HBW1.out.trans hb2)
          have HGV := Aside0.mk hgv
          clear hS2 hb2 hk2 hv2 hO2 hgv hpw hvr hvg HF HO
          go_wp2_with fail
          go_loopw [13] (fun v13 w3 => ∃ k : Nat, v13 = .int .i64 k ∧ k ≤ en - q ∧ Aside0 (Kept w2 w3 (fun k => k = g) ∧ Below w.heap.size w w3 ∧ ∃ ys : List Int, Kd.R (Kd.int .u8) 5 w3 wr.heap.size (fun _ => True) (.slice (some ⟨g, 0, none⟩) (en - q) cap) ys)) (fun v13 _ => (en - q) - (intOf v13).toNat)
          case atStart => exact ⟨0, rfl, Nat.zero_le _, ⟨Kept.refl _ _, HB2.out, _, HO2.out⟩⟩
          case round =>
            obtain ⟨k, rfl, hk, HK⟩ := hrel
            by_cases hkl : k < en - q
            · obtain ⟨ys, hys⟩ := HK.out.2.2
              obtain ⟨hc3, hf3⟩ := Kd.R_celln (0 : Int) hys (k : Int) (by omega) (by omega)
              have hp3 := Kd.R_putg hys (k : Int) 120
              rw [Int.toNat_natCast] at hc3 hf3 hp3
              have HP3 := Aside0.mk hp3
              clear hys hp3
              go_wp2
              go_roundw
              case rel =>
                refine ⟨k + 1, by go_num, by omega, ⟨Kept.of_grown HP3.out.2 HK.out.1 (fun k hk => .inl (by injection hk with hk; exact hk.symm)), ?_, _, HP3.out.1⟩⟩
                exact pw_below_grown HK.out.2.1 (some g) HK.out.2.1.size HP3.out.2 (fun k hk => by injection hk with hk; have := HIB.out.size; omega)
              case measure => simp [intOf]; omega
            · obtain rfl : k = en - q := by omega
              go_wp2_with fail
              have hS3 := HS2.out.other HK.out.1 HGV.out
              have hT : linesL most (b.take en) = ((linesL most (b.take q)).1 ++ (linesL most ((linesL most (b.take q)).2 ++ xs)).1, (linesL most ((linesL most (b.take q)).2 ++ xs)).2) := by
                rw [take_part b q en (by omega), ← HXS.out]
                exact linesL_app most xs _ _ (Nat.le_refl _)
              have hT2 := linesL_len most _ (b.take en) (Nat.le_refl _)
              have hT3 : (b.take en).length ≤ b.length := by rw [List.length_take]; omega
              have HS3 := Aside0.mk hS3
              have HB3 := Aside0.mk HK.out.2.1
              have HT := Aside0.mk hT
              have HLL := Aside0.mk (show ((linesL most (b.take q)).2 ++ xs).length ≤ b.length by rw [List.length_append]; omega)
              clear hS3 hT HK HS2 HB2 HGV HGC HO2
              go_loopw [8] (fun v8 w4 => ∃ (vr : Value) (l : List UInt8) (ls : List LS), Aside0 (Below w.heap.size w w4) ∧ Aside0 (St w4 w.heap.size w.heap.size vr v8 l ls) ∧ Aside0 (linesL most (b.take en) = (ls ++ (linesL most l).1, (linesL most l).2)) ∧ Aside0 (l.length ≤ b.length)) (fun v8 _ => b.length - sliceLen v8)
              case atStart => exact ⟨_, _, _, HB3, HS3, HT, HLL⟩
              case round =>
                obtain ⟨vr4, l, ls, HB4, HS4, HT4, HL4⟩ := hrel
                obtain ⟨Ag4, cg4, rfl⟩ := Kd.R_slice HS4.out.got
                go_wp2_with fail
                have hm4 := (HB4.out.cell (p := ⟨0, 0, none⟩) h0).trans HM.out
                have hN := HS4.out.Next HB4.out.size most m (by have := HL4.out; omega) hm4
                by_cases hi : 0 ≤ Lib.index l [13, 10]
                · obtain ⟨sl, r, hnx, hll, hrl2⟩ := next_lines most l hi
                  rw [hnx] at hN
                  refine hN.mono ?_
                  rintro e w5 ⟨v5, rfl, hS5, hb5⟩
                  have HS5 := Aside0.mk (hS5.below (below_alloc (Below.refl _ _) (.cells #[.int .i64 sl.f0, .string sl.f1] 29)))
                  have HB5 := Aside0.mk (HB4.out.trans hb5)
                  have HLL5 := Aside0.mk hll
                  clear hS5 hb5 hll hN hm4 hnx
                  have hcnt : 2 * (ls.length + 1) ≤ b.length := by
                    have h1 := hT2
                    rw [HT4.out, HLL5.out] at h1
                    simp at h1
                    omega
                  go_wp2_with ((with_reducible refine gate_builtin (b := .append) (xs := #[.tmp 86, .tmp 88]) rfl ?_); at_builtin; refine Kd.R_append k29 (w0 := w) w.heap.size rfl (.tmp 86) (.tmp 88) 26 29 (.agg #[(.int .i64 0), (.string ⟨#[]⟩)]) 24 rfl Try.underlying26 info29 rfl (by decide) (by omega) (.slice Ag4 ls.length cg4) ls sl [.int .i64 sl.f0, .string sl.f1] (fun _ => True) (fun _ => False) rfl ?aX ?aP (fun _ hk => hk.elim) (fun _ _ => trivial) ?aO ?aB ?aS ?aL ?_; (case aX => exact congrArg (fun k => Value.slice (some ⟨k, 0, none⟩) 1 1) (Array.size_push ..).symm); (case aP => exact k29_mkM _ _ _ sl); (case aO => exact HS5.out.got); (case aB => exact HB5.out.alloc HB5.out.size _); (case aS => exact (HB5.out.alloc HB5.out.size _).size); (case aL => omega); intro v6 w6 ho hb6 hg6 hat6; have hS6 := HS5.out.append ho hg6 hat6; obtain ⟨A6, c6, rfl⟩ := Kd.R_slice ho; rw [List.length_append, List.length_singleton] at hS6 ⊢; have HS6 := Aside0.mk hS6; have HB6 := Aside0.mk hb6; clear ho hb6 hg6 hat6 hS6)
                  go_roundw
                  case rel =>
                    refine ⟨v5, r, ls ++ [sl], HB6, HS6, ⟨?_⟩, ⟨by have := HL4.out; omega⟩⟩
                    rw [HT4.out, HLL5.out]
                    simp
                  case measure =>
                    simp [sliceLen]
                    omega
                · obtain ⟨hnx, hll⟩ := next_no most l hi
                  rw [hnx] at hN
                  refine hN.mono ?_
                  rintro e w5 ⟨v5, rfl, hS5, hb5⟩
                  have HS5 := Aside0.mk (hS5.below (below_alloc (Below.refl _ _) (.cells #[.int .i64 0, .string ⟨#[]⟩] 29)))
                  have HB5 := Aside0.mk (HB4.out.trans hb5)
                  have HLL5 := Aside0.mk hll
                  clear hS5 hb5 hll hN hm4 hnx
                  have hT5 : linesL most (b.take en) = (ls, l) := by
                    rw [HT4.out, HLL5.out]
                    simp
                  have hBA : Below w.heap.size w (w5.alloc (.cells #[.int .i64 0, .string ⟨#[]⟩] 29)) := HB5.out.alloc HB5.out.size _
                  have hLn := lines_at (Kd.C_below HR.out hBA) hc en (by omega) (by omega) most
                  rw [hT5] at hLn
                  have HLN := Aside0.mk hLn
                  have HT5 := Aside0.mk hT5
                  have HBA := Aside0.mk hBA
                  clear hLn hT5 hBA
                  go_wp2_with fail
                  refine HLN.out.mono ?_
                  rintro e w6 ⟨v0, A6, c6, rfl, -, hb6⟩
                  have HS6 := Aside0.mk (HS5.out.below hb6)
                  have HB6 := Aside0.mk (HBA.out.trans (hb6.mono HBA.out.size))
                  have HLF := Aside0.mk (Left_calls w6 _ _ _ _ HS6.out.rdr)
                  clear hb6 HLN
                  go_wp2_with fail
                  refine HLF.out.mono ?_
                  rintro e w7 ⟨rfl, rfl⟩
                  go_wp2
                  go_roundw
                  case rel =>
                    refine ⟨en, i + 1, v5, rfl, by go_num, by omega, by omega, ⟨HB6.out, ?_⟩⟩
                    rw [HT5.out]
                    exact HS6.out
                  case measure => simp [intOf]; omega
      · obtain rfl : q = b.length := by omega
        have hLn := lines_at (Kd.C_below HR.out HIB.out) hc b.length (Nat.le_refl _) (by omega) most
        have hS := HIS.out
        rw [List.take_length] at hLn hS
        have hT2 := linesL_len most _ b (Nat.le_refl _)
        obtain ⟨L, hL⟩ : ∃ L, L = (linesL most b).1 := ⟨_, rfl⟩
        rw [← hL] at hLn hS hT2
        have hLe : (linesL most (b.take b.length)).1.length = L.length := by rw [List.take_length, hL]
        rw [hLe]
        have HS := Aside0.mk hS
        have HLN := Aside0.mk hLn
        clear hLn hS hL hLe HIS
        go_wp2_with fail
        refine HLN.out.mono ?_
        rintro e w6 ⟨v0, A6, c6, rfl, hR6, hb6⟩
        obtain ⟨Aw, cw, rfl⟩ := Kd.R_slice hR6
        have HG6 := Aside0.mk (Kd.R_reads' (HS.out.below hb6).got).2.2
        have HW6 := Aside0.mk (Kd.R_reads' hR6).2.2
        have HB6 := Aside0.mk (HIB.out.trans (hb6.mono HIB.out.size))
        clear hR6 hb6 HLN HS
        go_wp2_with fail
        have hu29 := Try.underlying29
        go_loopw [20] (fun v20 w7 => ∃ k : Nat, v20 = .int .i64 k ∧ k ≤ L.length ∧ Aside0 (∃ n, w7 = w6.drewN n)) (fun v20 _ => L.length - (intOf v20).toNat)
        case atStart => exact ⟨0, rfl, Nat.zero_le _, ⟨0, rfl⟩⟩
        case round =>
          obtain ⟨k, rfl, hk, HK⟩ := hrel
          obtain ⟨nd, hnd⟩ := HK.out
          subst hnd
          by_cases hkl : k < L.length
          · obtain ⟨adg, rfl, hg0, hg1⟩ := at_T29 HG6.out (k : Int) (by omega) (by omega)
            obtain ⟨adw, rfl, hw0, hw1⟩ := at_T29 HW6.out (k : Int) (by omega) (by omega)
            rw [Int.toNat_natCast] at hg0 hg1 hw0 hw1
            obtain ⟨s, hs⟩ : ∃ s, s = rd_T29 L (k : Int) := ⟨_, rfl⟩
            rw [← hs] at hg0 hg1 hw0 hw1
            clear hs
            go_wp2
            repeat (go_quiet (fail); try go_wp2)
            refine ⟨⟨k + 1, by go_num, by omega, ⟨_, rfl⟩⟩, ?_⟩
            simp [intOf]
            omega
          · obtain rfl : k = L.length := by omega
            have HBD := Aside0.mk (pw_below_drewN HB6.out nd)
            go_wp2_with (go_at_call 7; refine (HA.out _ HBD.out).mono ?_; rintro e w8 ⟨rfl, hb8⟩; have HB8 := Aside0.mk (HBD.out.trans (hb8.mono HBD.out.size)); clear hb8)
            go_ret
            exact ⟨rfl, HB8.out⟩
theorem nums_of (l : List Int) (h : ∀ x ∈ l, (Lit.int .u8 x).wf = true) : ∃ b, l = numsL b := by
  refine ⟨Lib.bytesOf l, ?_⟩
  unfold Lib.bytesOf numsL
  rw [List.map_map]
  conv => lhs; rw [← List.map_id l]
  refine List.map_congr_left fun x hx => ?_
  have hw := h x hx
  have hb : 0 ≤ x ∧ x ≤ 255 := by simpa [Lit.wf, IntKind.min, IntKind.max, IntKind.signed, IntKind.bits] using hw
  show x = ((UInt8.ofNat x.toNat).toNat : Int)
  rw [UInt8.toNat_ofNat']
  omega
theorem LineParts_row (A : Option Addr) (c : Nat) (l : List Int) (A2 : Option Addr) (c2 : Nat) (ps : List Int) (most m : Int) (w : World) (hr : Kd.C (Kd.int .u8) w A l.length l) (hc : l.length ≤ c) (hl : ∀ x ∈ l, (Lit.int .u8 x).wf = true) (hr2 : Kd.C (Kd.int .u8) w A2 ps.length ps) (hc2 : ps.length ≤ c2) (hps : ∀ x ∈ ps, (Lit.int .u8 x).wf = true) (hm : w.cell? ⟨0, 0, none⟩ = some (.int .i64 m)) :
    Calls Try.prog 3 #[.slice A l.length c, .slice A2 ps.length c2, .int .i64 most] w fun e w' => e = .returned (.bool true) ∧ Below w.heap.size w w' := by
  obtain ⟨b, rfl⟩ := nums_of l hl
  have := LineParts_calls A c b A2 c2 ps most m w hr (by rw [nums_len] at hc; exact hc) hr2 hc2 hps hm
  rw [nums_len]
  exact this
end Go.Proofs.Ytgpchkkdpljonaa.Hand
