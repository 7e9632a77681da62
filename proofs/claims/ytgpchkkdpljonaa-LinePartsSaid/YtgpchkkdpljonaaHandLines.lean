/- ref.Lines on bytes that are only read. -/
import Derived.Test.YtgpchkkdpljonaaPYx0

namespace Go.Proofs.Ytgpchkkdpljonaa.Hand
open Go.RowKit Go.Proofs.YtgpchkkdpljonaaW.PrintWords Go.Proofs.YtgpchkkdpljonaaW.PrintLast Go.Proofs.YtgpchkkdpljonaaW.PrintMore Go.Proofs.Ytgpchkkdpljonaa.PY
attribute [local go_sem] max2_int min2_int max_two min_two max_three min_three max_four min_four
set_option linter.unusedVariables false
set_option linter.unusedSimpArgs false
def estafetteref01_Lines.l0 : Nat → List Int → Int → List (S29) → Int → Int → Option ((List (S29)) × List Int)
  | 0, _, _, _, _, _ => none
  | k + 1, x0, x1, x6, x7, x8 => if (wrap64 (x8 + 1)) < (x0.length : Int) then (if 0 ≤ x8 then (if x8 < (x0.length : Int) then (if (rd x0 x8) = 13 then (if 0 ≤ (wrap64 (x8 + 1)) then (if (rd x0 (wrap64 (x8 + 1))) = 10 then (if 0 ≤ x7 then (if x7 ≤ x8 then (if x8 ≤ (x0.length : Int) then ((PB.estafetteref01_Line.f k ((x0.take (x8 : Int).toNat).drop (x7 : Int).toNat) x1).bind fun bt129 => (if x6.length < 5864062014805 then (estafetteref01_Lines.l0 k x0 x1 (x6 ++ [(⟨bt129.1, bt129.2⟩ : S29)]) (wrap64 (x8 + 2)) (wrap64 ((wrap64 (x8 + 1)) + 1))) else (none))) else (none)) else (none)) else (none)) else (estafetteref01_Lines.l0 k x0 x1 x6 x7 (wrap64 (x8 + 1)))) else (none)) else (estafetteref01_Lines.l0 k x0 x1 x6 x7 (wrap64 (x8 + 1)))) else (none)) else (none)) else (if 0 ≤ x7 then (if x7 ≤ (x0.length : Int) then (some (x6, (x0.drop (x7 : Int).toNat))) else (none)) else (none))
def estafetteref01_Lines.f (k : Nat) (l0 : List Int) (a1 : Int) : Option ((List (S29)) × List Int) := estafetteref01_Lines.l0 k l0 a1 ([] : List (S29)) 0 0
theorem estafetteref01_Lines.mono_l : ∀ k, (∀ y0 y1 y2 y3 y4, LeO (estafetteref01_Lines.l0 k y0 y1 y2 y3 y4) (estafetteref01_Lines.l0 (k + 1) y0 y1 y2 y3 y4))
  | 0 => fun _ _ _ _ _ r h => by simp [estafetteref01_Lines.l0] at h
  | k + 1 => by
    have ih0 := estafetteref01_Lines.mono_l k
    · intro y0 y1 y2 y3 y4
      unfold estafetteref01_Lines.l0
      repeat' first
      | (with_reducible exact ih0 _ _ _ _ _)
      | (with_reducible exact PB.estafetteref01_Line.mono _ _ _)
      | (with_reducible exact LeO.refl _)
      | (with_reducible exact LeO.none _)
      | (with_reducible refine LeO.ite ?_ ?_)
      | (with_reducible refine LeO.bind ?_ (fun _ => ?_))
      | exact ih0 _ _ _ _ _
      | exact PB.estafetteref01_Line.mono _ _ _
      | exact LeO.none _
      | refine LeO.ite ?_ ?_
      | refine LeO.bind ?_ (fun _ => ?_)
theorem estafetteref01_Lines.mono : ∀ a0 a1 k, LeO (estafetteref01_Lines.f k a0 a1) (estafetteref01_Lines.f (k + 1) a0 a1) := by
  intro a0 a1 k
  have ih0 := estafetteref01_Lines.mono_l k
  unfold estafetteref01_Lines.f
  repeat' first
      | (with_reducible exact ih0 _ _ _ _ _)
      | (with_reducible exact PB.estafetteref01_Line.mono _ _ _)
      | (with_reducible exact LeO.refl _)
      | (with_reducible exact LeO.none _)
      | (with_reducible refine LeO.ite ?_ ?_)
      | (with_reducible refine LeO.bind ?_ (fun _ => ?_))
      | exact ih0 _ _ _ _ _
      | exact PB.estafetteref01_Line.mono _ _ _
      | exact LeO.none _
      | refine LeO.ite ?_ ?_
      | refine LeO.bind ?_ (fun _ => ?_)
set_option maxHeartbeats 8000000 in
set_option maxRecDepth 100000 in
theorem Lines_read (k : Nat) (A0 : Option Addr) (c0 : Nat) (l0 : List Int) (a1 : Int) (r1 : List S29) (r2 : List Int) (w : World) (hr0 : Kd.C (Kd.int .u8) w A0 l0.length l0) (hc0 : l0.length ≤ c0) (h : estafetteref01_Lines.f k l0 a1 = some (r1, r2)) :
    Calls Try.prog 11 #[.slice A0 l0.length c0, .int .i64 a1] w fun e w' => ∃ (v0 : Value) (A1 : Option Addr) (c1 : Nat), e = .returned (.tuple #[v0, .slice A1 r2.length c1]) ∧ Kd.R k29 29 w' w.heap.size (fun _ => True) v0 r1 ∧ Kd.C (Kd.int .u8) w' A1 r2.length r2 ∧ r2.length ≤ c1 ∧ Below w.heap.size w w' := by
  have HO0 := Aside0.mk hr0
  have HR00 := Aside0.mk hr0
  have HC00 := Aside0.mk hc0
  clear hr0 hc0
  have HK := Aside0.mk (Kept.refl w (fun _ => True))
  have HB := Aside0.mk (Below.refl w.heap.size w)
  have H : (estafetteref01_Lines.l0 k l0 a1 ([] : List (S29)) 0 0) = some (r1, r2) := h
  clear h
  have H' := Aside0.mk H
  clear H
  go_enter Try.func11, Try.ntmps11
  go_wp2
  repeat (go_quiet (fail); try go_wp2)
  go_loopg [6, 7, 8] k (fun kq v6 v7 v8 w' => ∃ (x6_1 : List (S29)) (x7_1 : Int) (x8_1 : Int), v7 = .int .i64 x7_1 ∧ v8 = .int .i64 x8_1 ∧ Aside0 (estafetteref01_Lines.l0 kq l0 a1 x6_1 x7_1 x8_1 = some (r1, r2)) ∧ Aside0 (kq ≤ k) ∧ Aside0 (Kd.C (Kd.int .u8) w' A0 l0.length l0) ∧ Aside0 (Kd.R k29 29 w' w.heap.size (fun _ => True) v6 x6_1) ∧ Aside0 (Kept w w' (fun _ => True)) ∧ Aside0 (Below w.heap.size w w'))
  case atStart => exact ⟨(([] : List (S29))), (0), (0), (by first | rfl | (simp; done) | (simp [*]; done)), (by first | rfl | (simp; done) | (simp [*]; done)), H', ⟨Nat.le_refl _⟩, ⟨by (with_reducible repeat (first | refine Kd.C_alloc ?_ _ | refine Kd.C_drewN ?_ _ | refine Kd.C_drew ?_)); exact HO0.out⟩, ⟨by first | exact Kd.R_nil _ _ _ _ _ | exact Kd.N_nil _ _ _ _ _ | exact Kd.V_nil _ _ _ _ _ | exact Kd.Q_nil _ _ _ _ _ | exact Kd.S_nil _ _ _ _ _⟩, ⟨by repeat (first | (with_reducible first | exact HK.out | apply Kept.alloc | apply Kept.drewN | apply Kept.drew) | exact HK.out)⟩, ⟨by repeat (first | (with_reducible first | exact HB.out | apply below_alloc | apply pw_below_drewN | apply below_drew1) | exact HB.out)⟩⟩
  case round =>
    clear H'
    try clear c1
    try clear p2
    obtain ⟨x6_1, x7_1, x8_1, rfl, rfl, HA, HK1, HO_0, HO_6, HK, HB⟩ := hrel
    cases gk with
    | zero => exact absurd HA.out (by simp [estafetteref01_Lines.l0])
    | succ k1 =>
      have H := HA.out
      clear HA
      simp only [estafetteref01_Lines.l0] at H
      by_cases c3 : (wrap64 (x8_1 + 1)) < (l0.length : Int)
      · rw [if_pos c3] at H
        have c3b0 : decide ((wrap64 (x8_1 + 1)) < (l0.length : Int)) = true := decide_eq_true c3
        clear c3
        by_cases c4 : 0 ≤ x8_1
        · rw [if_pos c4] at H
          have c4b0 : decide (0 ≤ x8_1) = true := decide_eq_true c4
          clear c4
          by_cases c5 : x8_1 < (l0.length : Int)
          · rw [if_pos c5] at H
            have c5b0 : decide (x8_1 < (l0.length : Int)) = true := decide_eq_true c5
            clear c5
            by_cases c6 : (rd l0 x8_1) = 13
            · rw [if_pos c6] at H
              have c6b0 : ((rd l0 x8_1) == 13) = true := beq_iff_eq.mpr c6
              have c6b1 : ((rd l0 x8_1) != 13) = false := bne_eq_false_iff_eq.mpr c6
              clear c6
              obtain ⟨ji7, hji7⟩ : ∃ j_ : Int, (wrap64 (x8_1 + 1)) = j_ := ⟨_, rfl⟩
              replace H : (if 0 ≤ (ji7) then (if (rd l0 (ji7)) = 10 then (if 0 ≤ x7_1 then (if x7_1 ≤ x8_1 then (if x8_1 ≤ (l0.length : Int) then ((PB.estafetteref01_Line.f k1 ((l0.take (x8_1 : Int).toNat).drop (x7_1 : Int).toNat) a1).bind fun bt129 => (if x6_1.length < 5864062014805 then (estafetteref01_Lines.l0 k1 l0 a1 (x6_1 ++ [(⟨bt129.1, bt129.2⟩ : S29)]) (wrap64 (x8_1 + 2)) (wrap64 ((ji7) + 1))) else (none))) else (none)) else (none)) else (none)) else (estafetteref01_Lines.l0 k1 l0 a1 x6_1 x7_1 ji7)) else (none)) = some (r1, r2) := by first | (rw [hji7] at H; exact H) | (simp only [hji7] at H ⊢; exact H)
              (try rw [hji7] at c3b0)
              have hji7w : (IntKind.i64.wrap (x8_1 + 1)) = ji7 := (i64_w _).trans hji7
              by_cases c8 : 0 ≤ (ji7)
              · rw [if_pos c8] at H
                have c8b0 : decide (0 ≤ (ji7)) = true := decide_eq_true c8
                clear c8
                by_cases c9 : (rd l0 (ji7)) = 10
                · rw [if_pos c9] at H
                  have c9b0 : ((rd l0 (ji7)) == 10) = true := beq_iff_eq.mpr c9
                  have c9b1 : ((rd l0 (ji7)) != 10) = false := bne_eq_false_iff_eq.mpr c9
                  clear c9
                  by_cases c10 : 0 ≤ x7_1
                  · rw [if_pos c10] at H
                    have c10b0 := eq_true c10
                    have c10b1 : decide (0 ≤ x7_1) = true := decide_eq_true c10
                    clear c10
                    by_cases c11 : x7_1 ≤ x8_1
                    · rw [if_pos c11] at H
                      have c11b0 := eq_true c11
                      have c11b1 : decide (x7_1 ≤ x8_1) = true := decide_eq_true c11
                      clear c11
                      by_cases c12 : x8_1 ≤ (l0.length : Int)
                      · rw [if_pos c12] at H
                        have c12b0 := eq_true c12
                        have c12b1 : decide (x8_1 ≤ (l0.length : Int)) = true := decide_eq_true c12
                        clear c12
                        obtain ⟨y125, hy125⟩ : ∃ y_ : List Int, y_ = ((l0.take (x8_1 : Int).toNat).drop (x7_1 : Int).toNat) := ⟨_, rfl⟩
                        replace H : ((PB.estafetteref01_Line.f k1 y125 a1).bind fun bt129 => (if x6_1.length < 5864062014805 then (estafetteref01_Lines.l0 k1 l0 a1 (x6_1 ++ [(⟨bt129.1, bt129.2⟩ : S29)]) (wrap64 (x8_1 + 2)) (wrap64 ((ji7) + 1))) else (none))) = some (r1, r2) := by first | (rw [hy125]; with_reducible exact H) | (have H2_ := (Option.bind_some _ _).symm.trans H; rw [hy125]; with_reducible exact H2_) | (have H2_ := (Option.bind_some _ _).symm.trans H; with_reducible exact H2_) | with_reducible exact H | (rw [hy125]; exact H) | exact H
                        have Ny125 := Aside0.mk hy125
                        clear hy125
                        replace H := Option.bind_eq_some_iff.mp H
                        obtain ⟨⟨t129, t130⟩, A130, H⟩ := H
                        replace H : (if x6_1.length < 5864062014805 then (estafetteref01_Lines.l0 k1 l0 a1 (x6_1 ++ [(⟨t129, t130⟩ : S29)]) (wrap64 (x8_1 + 2)) (wrap64 ((ji7) + 1))) else (none)) = some (r1, r2) := H
                        have A13 := Aside0.mk A130
                        clear A130
                        by_cases c14 : x6_1.length < 5864062014805
                        · rw [if_pos c14] at H
                          have LMc14 := Aside0.mk c14
                          clear c14
                          obtain ⟨y131, hy131⟩ : ∃ y_ : List (S29), y_ = (x6_1 ++ [(⟨t129, t130⟩ : S29)]) := ⟨_, rfl⟩
                          replace H : (estafetteref01_Lines.l0 k1 l0 a1 y131 (wrap64 (x8_1 + 2)) (wrap64 ((ji7) + 1))) = some (r1, r2) := by first | (rw [hy131]; with_reducible exact H) | (have H2_ := (Option.bind_some _ _).symm.trans H; rw [hy131]; with_reducible exact H2_) | (have H2_ := (Option.bind_some _ _).symm.trans H; with_reducible exact H2_) | with_reducible exact H | (rw [hy131]; exact H) | exact H
                          have Ny131 := Aside0.mk hy131
                          clear hy131
                          have H' := Aside0.mk H
                          clear H
                          have p123 : 0 ≤ (x8_1 : Int) := of_decide_eq_true (by first | (with_reducible assumption) | assumption)
                          have q123 : x8_1 < (l0.length : Int) := of_decide_eq_true (by first | (with_reducible assumption) | assumption)
                          obtain ⟨ad123, e123, hx123_0⟩ := Kd.at_int HO_0.out x8_1 p123 q123
                          cases e123
                          replace p123 := eq_true p123
                          replace q123 := eq_true q123
                          have p124 : 0 ≤ ((ji7) : Int) := of_decide_eq_true (by first | (with_reducible assumption) | assumption)
                          have q124 : (ji7) < (l0.length : Int) := of_decide_eq_true (by first | (with_reducible assumption) | assumption)
                          obtain ⟨ad124, e124, hx124_0⟩ := Kd.at_int HO_0.out (ji7) p124 q124
                          obtain rfl : ad123 = ad124 := (by injection e124)
                          replace p124 := eq_true p124
                          replace q124 := eq_true q124
                          have q16 : (x8_1 : Int) ≤ ((l0.length : Int) : Int) := of_decide_eq_true (by first | (with_reducible assumption) | assumption)
                          obtain ⟨i016, hi016, _, hsz16, _⟩ := info_parts info5
                          have hroom16 : l0.length ≤ c0 := HC00.out
                          have hC16 : Kd.C (Kd.int .u8) _ (some ad123) l0.length l0 := HO_0.out
                          have ql16 : (x7_1 : Int) ≤ (x8_1 : Int) := of_decide_eq_true (by first | (with_reducible assumption) | assumption)
                          have q016 : (0 : Int) ≤ (x7_1 : Int) := of_decide_eq_true (by first | (with_reducible assumption) | assumption)
                          have hcut16 := cut_mid (P := Try.prog) 22 5 .i64 .i64 Try.underlying22 hi016 1 hsz16 (some ad123) l0.length c0 x7_1 x8_1 q016 ql16 q16 hroom16
                          have hr16 := Kd.C_mid (lo := (x7_1 : Int).toNat) (hi := (x8_1 : Int).toNat) (c := c0) hC16 (by omega) (by omega) hroom16
                          obtain ⟨A16, hA16⟩ : ∃ A1, A1 = (if c0 = (x7_1 : Int).toNat then (some ad123) else ((some ad123) : Option Addr).map (·.add ((x7_1 : Int).toNat * 1))) := ⟨_, rfl⟩
                          obtain ⟨c16, hc16⟩ : ∃ c1, c1 = c0 - (x7_1 : Int).toNat := ⟨_, rfl⟩
                          have hy16 : y125.length = (x8_1 : Int).toNat - (x7_1 : Int).toNat := (by rw [Ny125.out, List.length_drop, List.length_take] <;> omega)
                          rw [show ((l0).take (x8_1 : Int).toNat).drop (x7_1 : Int).toNat = y125 from Ny125.out.symm] at hr16
                          replace hr16 : Kd.C (Kd.int .u8) _ A16 y125.length y125 := (by rw [hA16]; exact hr16)
                          rw [← hy16, ← hA16, ← hc16] at hcut16
                          have HR128 := Aside0.mk hr16
                          have HC128 := Aside0.mk (show y125.length ≤ c16 from by rw [hy16, hc16]; exact Nat.sub_le_sub_right (Nat.le_trans (by omega) hroom16) _)
                          clear hr16 hC16 hroom16 hi016 hsz16 hc16
                          have KY16 := Aside0.mk hy16
                          have KA16 := Aside0.mk hA16
                          clear hy16 hA16
                          have KL16 := Aside0.mk (show (x8_1 : Int).toNat ≤ l0.length from by omega)
                          have KM16 := Aside0.mk (show (x7_1 : Int).toNat ≤ (x8_1 : Int).toNat from by omega)
                          replace q16 := eq_true q16
                          go_wp2_with (first | (go_at_call 13; (with_reducible refine (PB.estafetteref01_Line.calls k1 _ _ y125 a1 t129 t130 _ ?side1 ?side2 A13.out).mono ?_); (case side1 => repeat (first | exact (by repeat (first | (with_reducible exact HR128.out) | (with_reducible refine Kd.C_alloc ?_ _) | (with_reducible refine Kd.C_drewN ?_ _) | (with_reducible refine Kd.C_drew ?_) | exact HR128.out)) | (with_reducible refine Kd.C_alloc ?_ _) | (with_reducible refine Kd.C_drewN ?_ _) | (with_reducible refine Kd.C_drew ?_))); (case side2 => exact HC128.out); rintro e w17 ⟨rfl, hb⟩; have n0_ := Aside0.mk (Kd.C_below (by (with_reducible repeat (first | refine Kd.C_alloc ?_ _ | refine Kd.C_drewN ?_ _ | refine Kd.C_drew ?_)); exact HO_0.out) hb); have n1_ := Aside0.mk (Kd.R_below (by (with_reducible repeat (first | apply Kd.R_alloc | apply Kd.R_drewN | apply Kd.R_drew)); exact HO_6.out) hb); have n2_ := Aside0.mk (Kd.C_below (by repeat (first | (with_reducible exact HR128.out) | (with_reducible refine Kd.C_alloc ?_ _) | (with_reducible refine Kd.C_drewN ?_ _) | (with_reducible refine Kd.C_drew ?_) | exact HR128.out)) hb); have n3_ := Aside0.mk (Kept.below (S := (fun _ => True)) (by repeat (first | (with_reducible first | exact HK.out | apply Kept.alloc | apply Kept.drewN | apply Kept.drew) | exact HK.out)) hb); have n4_ := Aside0.mk (below_step (by repeat (first | (with_reducible first | exact HB.out | apply below_alloc | apply pw_below_drewN | apply below_drew1) | exact HB.out)) hb); clear HO_0; clear HO_6; clear HR128; clear HK; clear HB; have HO_0 := n0_; have HO_6 := n1_; have HR128 := n2_; have HK := n3_; have HB := n4_; clear n0_ n1_ n2_ n3_ n4_; (try clear hb); (try clear hb2); (try clear hk); (try clear hi)) | ((with_reducible refine gate_builtin (b := .append) (xs := #[.tmp 29, .tmp 36]) rfl ?_); at_builtin; refine Kd.R_append k29 (w0 := w) w.heap.size rfl (.tmp 29) (.tmp 36) 26 29 (.agg #[(.int .i64 0), (.string ⟨#[]⟩)]) 24 rfl Try.underlying26 info29 rfl (by decide) (by omega) u6 x6_1 (⟨t129, t130⟩ : S29) [.int .i64 t129, .string t130] (fun _ => True) (fun _ => False) rfl rfl ?aP (fun _ hk => hk.elim) ?aF ?aO ?aB ?aS ?aL ?_; (case aP => exact k29_mkM _ _ _ (⟨t129, t130⟩ : S29)); (case aB => exact (by repeat (first | (with_reducible first | exact HB.out | apply below_alloc | apply pw_below_drewN | apply below_drew1) | exact HB.out))); (case aF => exact (fun _ _ => trivial)); (case aO => exact (by (with_reducible repeat (first | apply Kd.R_alloc | apply Kd.R_drewN | apply Kd.R_drew)); exact HO_6.out)); (case aS => exact (below_size (by repeat (first | (with_reducible first | exact HB.out | apply below_alloc | apply pw_below_drewN | apply below_drew1) | exact HB.out)))); (case aL => have := LMc14.out; omega); intro v132 w18 ho hb hg hat; rw [← Ny131.out] at ho; have n0_ := Aside0.mk (Kd.C_below HR00.out hb); have n1_ := Aside0.mk (hb); have n2_ := Aside0.mk (Kept.of_grown (S := (fun _ => True)) hg (by repeat (first | (with_reducible first | exact HK.out | apply Kept.alloc | apply Kept.drewN | apply Kept.drew) | exact HK.out)) (fun k_ e_ => .inl trivial)); have n3_ := Aside0.mk ((show Kd.C (Kd.int .u8) w18 A16 y125.length y125 from by rw [Ny125.out, KA16.out]; exact Kd.C_mid (lo := (x7_1 : Int).toNat) (hi := (x8_1 : Int).toNat) (c := c0) (Kd.C_below HR00.out hb) KM16.out KL16.out (HC00.out))); have n4_ := Aside0.mk (ho); clear HO_0; clear HB; clear HK; clear HR128; clear HO_6; have HO_0 := n0_; have HB := n1_; have HK := n2_; have HR128 := n3_; have HO133 := n4_; clear n0_ n1_ n2_ n3_ n4_; clear ho hb hg hat))
                          repeat (go_quiet (first | (go_at_call 13; (with_reducible refine (PB.estafetteref01_Line.calls k1 _ _ y125 a1 t129 t130 _ ?side1 ?side2 A13.out).mono ?_); (case side1 => repeat (first | exact (by repeat (first | (with_reducible exact HR128.out) | (with_reducible refine Kd.C_alloc ?_ _) | (with_reducible refine Kd.C_drewN ?_ _) | (with_reducible refine Kd.C_drew ?_) | exact HR128.out)) | (with_reducible refine Kd.C_alloc ?_ _) | (with_reducible refine Kd.C_drewN ?_ _) | (with_reducible refine Kd.C_drew ?_))); (case side2 => exact HC128.out); rintro e w17 ⟨rfl, hb⟩; have n0_ := Aside0.mk (Kd.C_below (by (with_reducible repeat (first | refine Kd.C_alloc ?_ _ | refine Kd.C_drewN ?_ _ | refine Kd.C_drew ?_)); exact HO_0.out) hb); have n1_ := Aside0.mk (Kd.R_below (by (with_reducible repeat (first | apply Kd.R_alloc | apply Kd.R_drewN | apply Kd.R_drew)); exact HO_6.out) hb); have n2_ := Aside0.mk (Kd.C_below (by repeat (first | (with_reducible exact HR128.out) | (with_reducible refine Kd.C_alloc ?_ _) | (with_reducible refine Kd.C_drewN ?_ _) | (with_reducible refine Kd.C_drew ?_) | exact HR128.out)) hb); have n3_ := Aside0.mk (Kept.below (S := (fun _ => True)) (by repeat (first | (with_reducible first | exact HK.out | apply Kept.alloc | apply Kept.drewN | apply Kept.drew) | exact HK.out)) hb); have n4_ := Aside0.mk (below_step (by repeat (first | (with_reducible first | exact HB.out | apply below_alloc | apply pw_below_drewN | apply below_drew1) | exact HB.out)) hb); clear HO_0; clear HO_6; clear HR128; clear HK; clear HB; have HO_0 := n0_; have HO_6 := n1_; have HR128 := n2_; have HK := n3_; have HB := n4_; clear n0_ n1_ n2_ n3_ n4_; (try clear hb); (try clear hb2); (try clear hk); (try clear hi)) | ((with_reducible refine gate_builtin (b := .append) (xs := #[.tmp 29, .tmp 36]) rfl ?_); at_builtin; refine Kd.R_append k29 (w0 := w) w.heap.size rfl (.tmp 29) (.tmp 36) 26 29 (.agg #[(.int .i64 0), (.string ⟨#[]⟩)]) 24 rfl Try.underlying26 info29 rfl (by decide) (by omega) u6 x6_1 (⟨t129, t130⟩ : S29) [.int .i64 t129, .string t130] (fun _ => True) (fun _ => False) rfl rfl ?aP (fun _ hk => hk.elim) ?aF ?aO ?aB ?aS ?aL ?_; (case aP => exact k29_mkM _ _ _ (⟨t129, t130⟩ : S29)); (case aB => exact (by repeat (first | (with_reducible first | exact HB.out | apply below_alloc | apply pw_below_drewN | apply below_drew1) | exact HB.out))); (case aF => exact (fun _ _ => trivial)); (case aO => exact (by (with_reducible repeat (first | apply Kd.R_alloc | apply Kd.R_drewN | apply Kd.R_drew)); exact HO_6.out)); (case aS => exact (below_size (by repeat (first | (with_reducible first | exact HB.out | apply below_alloc | apply pw_below_drewN | apply below_drew1) | exact HB.out)))); (case aL => have := LMc14.out; omega); intro v132 w18 ho hb hg hat; rw [← Ny131.out] at ho; have n0_ := Aside0.mk (Kd.C_below HR00.out hb); have n1_ := Aside0.mk (hb); have n2_ := Aside0.mk (Kept.of_grown (S := (fun _ => True)) hg (by repeat (first | (with_reducible first | exact HK.out | apply Kept.alloc | apply Kept.drewN | apply Kept.drew) | exact HK.out)) (fun k_ e_ => .inl trivial)); have n3_ := Aside0.mk ((show Kd.C (Kd.int .u8) w18 A16 y125.length y125 from by rw [Ny125.out, KA16.out]; exact Kd.C_mid (lo := (x7_1 : Int).toNat) (hi := (x8_1 : Int).toNat) (c := c0) (Kd.C_below HR00.out hb) KM16.out KL16.out (HC00.out))); have n4_ := Aside0.mk (ho); clear HO_0; clear HB; clear HK; clear HR128; clear HO_6; have HO_0 := n0_; have HB := n1_; have HK := n2_; have HR128 := n3_; have HO133 := n4_; clear n0_ n1_ n2_ n3_ n4_; clear ho hb hg hat)); try go_wp2_with (first | (go_at_call 13; (with_reducible refine (PB.estafetteref01_Line.calls k1 _ _ y125 a1 t129 t130 _ ?side1 ?side2 A13.out).mono ?_); (case side1 => repeat (first | exact (by repeat (first | (with_reducible exact HR128.out) | (with_reducible refine Kd.C_alloc ?_ _) | (with_reducible refine Kd.C_drewN ?_ _) | (with_reducible refine Kd.C_drew ?_) | exact HR128.out)) | (with_reducible refine Kd.C_alloc ?_ _) | (with_reducible refine Kd.C_drewN ?_ _) | (with_reducible refine Kd.C_drew ?_))); (case side2 => exact HC128.out); rintro e w17 ⟨rfl, hb⟩; have n0_ := Aside0.mk (Kd.C_below (by (with_reducible repeat (first | refine Kd.C_alloc ?_ _ | refine Kd.C_drewN ?_ _ | refine Kd.C_drew ?_)); exact HO_0.out) hb); have n1_ := Aside0.mk (Kd.R_below (by (with_reducible repeat (first | apply Kd.R_alloc | apply Kd.R_drewN | apply Kd.R_drew)); exact HO_6.out) hb); have n2_ := Aside0.mk (Kd.C_below (by repeat (first | (with_reducible exact HR128.out) | (with_reducible refine Kd.C_alloc ?_ _) | (with_reducible refine Kd.C_drewN ?_ _) | (with_reducible refine Kd.C_drew ?_) | exact HR128.out)) hb); have n3_ := Aside0.mk (Kept.below (S := (fun _ => True)) (by repeat (first | (with_reducible first | exact HK.out | apply Kept.alloc | apply Kept.drewN | apply Kept.drew) | exact HK.out)) hb); have n4_ := Aside0.mk (below_step (by repeat (first | (with_reducible first | exact HB.out | apply below_alloc | apply pw_below_drewN | apply below_drew1) | exact HB.out)) hb); clear HO_0; clear HO_6; clear HR128; clear HK; clear HB; have HO_0 := n0_; have HO_6 := n1_; have HR128 := n2_; have HK := n3_; have HB := n4_; clear n0_ n1_ n2_ n3_ n4_; (try clear hb); (try clear hb2); (try clear hk); (try clear hi)) | ((with_reducible refine gate_builtin (b := .append) (xs := #[.tmp 29, .tmp 36]) rfl ?_); at_builtin; refine Kd.R_append k29 (w0 := w) w.heap.size rfl (.tmp 29) (.tmp 36) 26 29 (.agg #[(.int .i64 0), (.string ⟨#[]⟩)]) 24 rfl Try.underlying26 info29 rfl (by decide) (by omega) u6 x6_1 (⟨t129, t130⟩ : S29) [.int .i64 t129, .string t130] (fun _ => True) (fun _ => False) rfl rfl ?aP (fun _ hk => hk.elim) ?aF ?aO ?aB ?aS ?aL ?_; (case aP => exact k29_mkM _ _ _ (⟨t129, t130⟩ : S29)); (case aB => exact (by repeat (first | (with_reducible first | exact HB.out | apply below_alloc | apply pw_below_drewN | apply below_drew1) | exact HB.out))); (case aF => exact (fun _ _ => trivial)); (case aO => exact (by (with_reducible repeat (first | apply Kd.R_alloc | apply Kd.R_drewN | apply Kd.R_drew)); exact HO_6.out)); (case aS => exact (below_size (by repeat (first | (with_reducible first | exact HB.out | apply below_alloc | apply pw_below_drewN | apply below_drew1) | exact HB.out)))); (case aL => have := LMc14.out; omega); intro v132 w18 ho hb hg hat; rw [← Ny131.out] at ho; have n0_ := Aside0.mk (Kd.C_below HR00.out hb); have n1_ := Aside0.mk (hb); have n2_ := Aside0.mk (Kept.of_grown (S := (fun _ => True)) hg (by repeat (first | (with_reducible first | exact HK.out | apply Kept.alloc | apply Kept.drewN | apply Kept.drew) | exact HK.out)) (fun k_ e_ => .inl trivial)); have n3_ := Aside0.mk ((show Kd.C (Kd.int .u8) w18 A16 y125.length y125 from by rw [Ny125.out, KA16.out]; exact Kd.C_mid (lo := (x7_1 : Int).toNat) (hi := (x8_1 : Int).toNat) (c := c0) (Kd.C_below HR00.out hb) KM16.out KL16.out (HC00.out))); have n4_ := Aside0.mk (ho); clear HO_0; clear HB; clear HK; clear HR128; clear HO_6; have HO_0 := n0_; have HB := n1_; have HK := n2_; have HR128 := n3_; have HO133 := n4_; clear n0_ n1_ n2_ n3_ n4_; clear ho hb hg hat)))
                          go_roundg k1
                          case measure => have := HK1.out; omega
                          case rel => exact ⟨(y131), (wrap64 (x8_1 + 2)), (wrap64 ((ji7) + 1)), (by first | rfl | (simp; done) | (simp [*]; done)), (by first | rfl | (simp; done) | (simp only [← hji7] <;> (first | rfl | simp)) | (simp [*]; done)), H', ⟨by have := HK1.out; omega⟩, ⟨by (with_reducible repeat (first | refine Kd.C_alloc ?_ _ | refine Kd.C_drewN ?_ _ | refine Kd.C_drew ?_)); exact HO_0.out⟩, ⟨by (with_reducible repeat (first | apply Kd.R_alloc | apply Kd.R_drewN | apply Kd.R_drew)); exact HO133.out⟩, ⟨by repeat (first | (with_reducible first | exact HK.out | apply Kept.alloc | apply Kept.drewN | apply Kept.drew) | exact HK.out)⟩, ⟨by repeat (first | (with_reducible first | exact HB.out | apply below_alloc | apply pw_below_drewN | apply below_drew1) | exact HB.out)⟩⟩
                        · rw [if_neg c14] at H
                          exact absurd H (by simp)
                      · rw [if_neg c12] at H
                        exact absurd H (by simp)
                    · rw [if_neg c11] at H
                      exact absurd H (by simp)
                  · rw [if_neg c10] at H
                    exact absurd H (by simp)
                · rw [if_neg c9] at H
                  have c9b0 : ((rd l0 (ji7)) == 10) = false := beq_eq_false_iff_ne.mpr c9
                  have c9b1 : ((rd l0 (ji7)) != 10) = true := bne_iff_ne.mpr c9
                  have H' := Aside0.mk H
                  clear H
                  have p123 : 0 ≤ (x8_1 : Int) := of_decide_eq_true (by first | (with_reducible assumption) | assumption)
                  have q123 : x8_1 < (l0.length : Int) := of_decide_eq_true (by first | (with_reducible assumption) | assumption)
                  obtain ⟨ad123, e123, hx123_0⟩ := Kd.at_int HO_0.out x8_1 p123 q123
                  cases e123
                  replace p123 := eq_true p123
                  replace q123 := eq_true q123
                  have p124 : 0 ≤ ((ji7) : Int) := of_decide_eq_true (by first | (with_reducible assumption) | assumption)
                  have q124 : (ji7) < (l0.length : Int) := of_decide_eq_true (by first | (with_reducible assumption) | assumption)
                  obtain ⟨ad124, e124, hx124_0⟩ := Kd.at_int HO_0.out (ji7) p124 q124
                  obtain rfl : ad123 = ad124 := (by injection e124)
                  replace p124 := eq_true p124
                  replace q124 := eq_true q124
                  go_wp2
                  repeat (go_quiet (fail); try go_wp2)
                  go_roundg k1
                  case measure => have := HK1.out; omega
                  case rel => exact ⟨(x6_1), (x7_1), (ji7), (by first | rfl | (simp; done) | (simp [*]; done)), (by first | rfl | (simp; done) | (simp only [← hji7] <;> (first | rfl | simp)) | (simp [*]; done)), H', ⟨by have := HK1.out; omega⟩, ⟨by (with_reducible repeat (first | refine Kd.C_alloc ?_ _ | refine Kd.C_drewN ?_ _ | refine Kd.C_drew ?_)); exact HO_0.out⟩, ⟨by (with_reducible repeat (first | apply Kd.R_alloc | apply Kd.R_drewN | apply Kd.R_drew)); exact HO_6.out⟩, ⟨by repeat (first | (with_reducible first | exact HK.out | apply Kept.alloc | apply Kept.drewN | apply Kept.drew) | exact HK.out)⟩, ⟨by repeat (first | (with_reducible first | exact HB.out | apply below_alloc | apply pw_below_drewN | apply below_drew1) | exact HB.out)⟩⟩
              · rw [if_neg c8] at H
                exact absurd H (by simp)
            · rw [if_neg c6] at H
              have c6b0 : ((rd l0 x8_1) == 13) = false := beq_eq_false_iff_ne.mpr c6
              have c6b1 : ((rd l0 x8_1) != 13) = true := bne_iff_ne.mpr c6
              have H' := Aside0.mk H
              clear H
              have p123 : 0 ≤ (x8_1 : Int) := of_decide_eq_true (by first | (with_reducible assumption) | assumption)
              have q123 : x8_1 < (l0.length : Int) := of_decide_eq_true (by first | (with_reducible assumption) | assumption)
              obtain ⟨ad123, e123, hx123_0⟩ := Kd.at_int HO_0.out x8_1 p123 q123
              cases e123
              replace p123 := eq_true p123
              replace q123 := eq_true q123
              go_wp2
              repeat (go_quiet (fail); try go_wp2)
              go_roundg k1
              case measure => have := HK1.out; omega
              case rel => exact ⟨(x6_1), (x7_1), (wrap64 (x8_1 + 1)), (by first | rfl | (simp; done) | (simp [*]; done)), (by first | rfl | (simp; done) | (simp [*]; done)), H', ⟨by have := HK1.out; omega⟩, ⟨by (with_reducible repeat (first | refine Kd.C_alloc ?_ _ | refine Kd.C_drewN ?_ _ | refine Kd.C_drew ?_)); exact HO_0.out⟩, ⟨by (with_reducible repeat (first | apply Kd.R_alloc | apply Kd.R_drewN | apply Kd.R_drew)); exact HO_6.out⟩, ⟨by repeat (first | (with_reducible first | exact HK.out | apply Kept.alloc | apply Kept.drewN | apply Kept.drew) | exact HK.out)⟩, ⟨by repeat (first | (with_reducible first | exact HB.out | apply below_alloc | apply pw_below_drewN | apply below_drew1) | exact HB.out)⟩⟩
          · rw [if_neg c5] at H
            exact absurd H (by simp)
        · rw [if_neg c4] at H
          exact absurd H (by simp)
      · rw [if_neg c3] at H
        have c3b0 : decide ((wrap64 (x8_1 + 1)) < (l0.length : Int)) = false := decide_eq_false c3
        clear c3
        by_cases c21 : 0 ≤ x7_1
        · rw [if_pos c21] at H
          have c21b0 := eq_true c21
          have c21b1 : decide (0 ≤ x7_1) = true := decide_eq_true c21
          clear c21
          by_cases c22 : x7_1 ≤ (l0.length : Int)
          · rw [if_pos c22] at H
            have c22b0 := eq_true c22
            have c22b1 : decide (x7_1 ≤ (l0.length : Int)) = true := decide_eq_true c22
            clear c22
            obtain ⟨y134, hy134⟩ : ∃ y_ : List Int, y_ = (l0.drop (x7_1 : Int).toNat) := ⟨_, rfl⟩
            replace H : (some (x6_1, y134)) = some (r1, r2) := by first | (rw [hy134]; with_reducible exact H) | (have H2_ := (Option.bind_some _ _).symm.trans H; rw [hy134]; with_reducible exact H2_) | (have H2_ := (Option.bind_some _ _).symm.trans H; with_reducible exact H2_) | with_reducible exact H | (rw [hy134]; exact H) | exact H
            have Ny134 := Aside0.mk hy134
            clear hy134
            simp only [Option.some.injEq, Prod.mk.injEq] at H
            obtain ⟨rfl, rfl⟩ := H
            have q24 : (x7_1 : Int) ≤ ((l0.length : Int) : Int) := of_decide_eq_true (by first | (with_reducible assumption) | assumption)
            obtain ⟨i024, hi024, _, hsz24, _⟩ := info_parts info5
            have hcut24 := cut_from (P := Try.prog) 22 5 .i64 Try.underlying22 hi024 1 hsz24 A0 l0.length c0 x7_1 (of_decide_eq_true (by first | (with_reducible assumption) | assumption)) q24
            have hr24 := Kd.C_drop (m := (x7_1 : Int).toNat) (c := c0) HO_0.out (by omega) HC00.out
            obtain ⟨A24, hA24⟩ : ∃ A1, A1 = (if c0 = (x7_1 : Int).toNat then A0 else (A0 : Option Addr).map (·.add ((x7_1 : Int).toNat * 1))) := ⟨_, rfl⟩
            obtain ⟨c24, hc24⟩ : ∃ c1, c1 = c0 - (x7_1 : Int).toNat := ⟨_, rfl⟩
            have hy24 : y134.length = l0.length - (x7_1 : Int).toNat := (by rw [Ny134.out, List.length_drop])
            rw [← Ny134.out] at hr24
            rw [← hy24, ← hA24, ← hc24] at hcut24
            replace hr24 : Kd.C (Kd.int .u8) _ A24 y134.length y134 := (by rw [hA24]; exact hr24)
            have HCE := Aside0.mk (show y134.length ≤ c24 from by rw [hy24, hc24]; exact Nat.sub_le_sub_right HC00.out _)
            clear hy24 hi024 hsz24 HO_0 hA24 hc24
            have HO136 := Aside0.mk hr24
            clear hr24
            replace q24 := eq_true q24
            go_wp2
            repeat (go_quiet (fail); try go_wp2)
            go_ret2
            exact ⟨_, _, _, rfl, by (with_reducible repeat (first | apply Kd.R_alloc | apply Kd.R_drewN | apply Kd.R_drew)); exact HO_6.out, by repeat (first | (with_reducible exact HO136.out) | (with_reducible refine Kd.C_alloc ?_ _) | (with_reducible refine Kd.C_drewN ?_ _) | (with_reducible refine Kd.C_drew ?_) | exact HO136.out), HCE.out, by repeat (first | (with_reducible first | exact HB.out | apply below_alloc | apply pw_below_drewN | apply below_drew1) | exact HB.out)⟩
          · rw [if_neg c22] at H
            exact absurd H (by simp)
        · rw [if_neg c21] at H
          exact absurd H (by simp)

end Go.Proofs.Ytgpchkkdpljonaa.Hand
