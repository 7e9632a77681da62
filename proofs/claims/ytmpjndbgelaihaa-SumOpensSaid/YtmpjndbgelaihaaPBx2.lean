/- For every input: what the functions below return, or the statement that this text proves. Written by a program of this claim.s author (a turned print). -/
import Derived.Test.YtmpjndbgelaihaaPBx0
namespace Go.Proofs.Ytmpjndbgelaihaa.PB
open Go.RowKit Go.Proofs.YtmpjndbgelaihaaW.PrintWords Go.Proofs.YtmpjndbgelaihaaW.PrintLast Go.Proofs.YtmpjndbgelaihaaW.PrintMore
attribute [local go_sem] max2_int min2_int max_two min_two max_three min_three max_four min_four   -- for this text's walks alone
set_option linter.unusedVariables false
set_option linter.unusedSimpArgs false

/-! ### estafettelaw09_SumTurned: function 6 -/
def estafettelaw09_SumTurned.j0 : Nat → List Int → Int → Int → Int → Bool → Option (Bool)
  | 0, _, _, _, _, _ => none
  | k + 1, x0, x1, x2, x3, x23 => if x23 = true then ((Hand.answers.f).bind fun t168 => (some t168)) else ((PA.estafetteref08_Seal.f k x0).bind fun t169 => (if (wrap64 ((t169.length : Int) - 1)) = 0 then (none) else (if 0 ≤ (Int.tmod (wrap64 (x1)) (wrap64 ((t169.length : Int) - 1))) then (if (Int.tmod (wrap64 (x1)) (wrap64 ((t169.length : Int) - 1))) < (t169.length : Int) then ((some (t169.set ((Int.tmod (wrap64 (x1)) (wrap64 ((t169.length : Int) - 1))) : Int).toNat (Go.bits .xor .u8 (rd t169 (Int.tmod (wrap64 (x1)) (wrap64 ((t169.length : Int) - 1)))) x2) : List Int)).bind fun y173 => (if 0 ≤ (wrap64 ((Int.tmod (wrap64 (x1)) (wrap64 ((t169.length : Int) - 1))) + 1)) then (if (wrap64 ((Int.tmod (wrap64 (x1)) (wrap64 ((t169.length : Int) - 1))) + 1)) < (t169.length : Int) then ((PA.sum_Open.f k (y173.set ((wrap64 ((Int.tmod (wrap64 (x1)) (wrap64 ((t169.length : Int) - 1))) + 1)) : Int).toNat (Go.bits .xor .u8 (rd y173 (wrap64 ((Int.tmod (wrap64 (x1)) (wrap64 ((t169.length : Int) - 1))) + 1))) x3))).bind fun bt176 => ((Hand.answers.f).bind fun t180 => (if t180 = true then (if bt176.2 = true then (some false) else (some ((bt176.1.length : Int) == 0))) else (some false)))) else (none)) else (none))) else (none)) else (none))))
def estafettelaw09_SumTurned.f (k : Nat) (l0 : List Int) (a1 : Int) (a2 : Int) (a3 : Int) : Option (Bool) := if (l0.length : Int) > 1000 then (estafettelaw09_SumTurned.j0 k l0 a1 a2 a3 true) else (if a2 = 0 then (estafettelaw09_SumTurned.j0 k l0 a1 a2 a3 (a3 == 0)) else (estafettelaw09_SumTurned.j0 k l0 a1 a2 a3 false))
theorem estafettelaw09_SumTurned.mono_l : ∀ k, (∀ y0 y1 y2 y3 y4, LeO (estafettelaw09_SumTurned.j0 k y0 y1 y2 y3 y4) (estafettelaw09_SumTurned.j0 (k + 1) y0 y1 y2 y3 y4))
  | 0 => fun _ _ _ _ _ r h => by simp [estafettelaw09_SumTurned.j0] at h
  | k + 1 => by
    have ih0 := estafettelaw09_SumTurned.mono_l k
    · intro y0 y1 y2 y3 y4
      unfold estafettelaw09_SumTurned.j0
      repeat' first
      | (with_reducible exact ih0 _ _ _ _ _)
      | (with_reducible exact PA.estafetteref08_Seal.mono _ _)
      | (with_reducible exact PA.sum_Open.mono _ _)
      | (with_reducible exact LeO.refl _)
      | (with_reducible exact LeO.none _)
      | (with_reducible refine LeO.ite ?_ ?_)
      | (with_reducible refine LeO.bind ?_ (fun _ => ?_))
      | exact ih0 _ _ _ _ _
      | exact PA.estafetteref08_Seal.mono _ _
      | exact PA.sum_Open.mono _ _
      | exact LeO.none _
      | refine LeO.ite ?_ ?_
      | refine LeO.bind ?_ (fun _ => ?_)
theorem estafettelaw09_SumTurned.mono : ∀ a0 a1 a2 a3 k, LeO (estafettelaw09_SumTurned.f k a0 a1 a2 a3) (estafettelaw09_SumTurned.f (k + 1) a0 a1 a2 a3) := by
  intro a0 a1 a2 a3 k
  have ih0 := estafettelaw09_SumTurned.mono_l k
  unfold estafettelaw09_SumTurned.f
  repeat' first
      | (with_reducible exact ih0 _ _ _ _ _)
      | (with_reducible exact PA.estafetteref08_Seal.mono _ _)
      | (with_reducible exact PA.sum_Open.mono _ _)
      | (with_reducible exact LeO.refl _)
      | (with_reducible exact LeO.none _)
      | (with_reducible refine LeO.ite ?_ ?_)
      | (with_reducible refine LeO.bind ?_ (fun _ => ?_))
      | exact ih0 _ _ _ _ _
      | exact PA.estafetteref08_Seal.mono _ _
      | exact PA.sum_Open.mono _ _
      | exact LeO.none _
      | refine LeO.ite ?_ ?_
      | refine LeO.bind ?_ (fun _ => ?_)
set_option maxHeartbeats 8000000 in
set_option maxRecDepth 100000 in
theorem estafettelaw09_SumTurned.calls (k : Nat) (A0 : Option Addr) (c0 : Nat) (l0 : List Int) (a1 : Int) (a2 : Int) (a3 : Int) (r : Bool) (w : World) (hr0 : Kd.C (Kd.int .u8) w A0 l0.length l0) (hc0 : l0.length ≤ c0) (h : estafettelaw09_SumTurned.f k l0 a1 a2 a3 = some r) :
    Calls Try.prog 6 #[.slice A0 l0.length c0, .int .u16 a1, .int .u8 a2, .int .u8 a3] w fun e w' => e = .returned (.bool r) ∧ Below w.heap.size w w' := by
  have HR0 := Aside0.mk hr0
  have HC0 := Aside0.mk hc0
  clear hr0 hc0
  have HB := Aside0.mk (Below.refl w.heap.size w)
  have H : (if (l0.length : Int) > 1000 then (estafettelaw09_SumTurned.j0 k l0 a1 a2 a3 true) else (if a2 = 0 then (estafettelaw09_SumTurned.j0 k l0 a1 a2 a3 (a3 == 0)) else (estafettelaw09_SumTurned.j0 k l0 a1 a2 a3 false))) = some r := h
  clear h
  have HC5 := Aside0.mk H
  clear H
  go_enter Try.func6, Try.ntmps6
  go_upto_region 1 with (fail)
  go_cut [23] (fun v23 wc => ∃ (kq : Nat) (x23_4 : Bool), v23 = .bool x23_4 ∧ Aside0 (estafettelaw09_SumTurned.j0 kq l0 a1 a2 a3 x23_4 = some r) ∧ Aside0 (kq ≤ k) ∧ Aside0 (Below w.heap.size w wc))
  case first =>
    have H := HC5.out
    clear HC5
    by_cases c6 : (l0.length : Int) > 1000
    · rw [if_pos c6] at H
      have c6b0 : decide (1000 < (l0.length : Int)) = true := decide_eq_true c6
      have c6b1 : decide (1000 < l0.length) = true := decide_eq_true (by omega)
      clear c6
      (first | rw [c6b0] | (simp only [i64_w, i32_w]; rw [c6b0]) | skip)
      have H' := Aside0.mk H
      clear H
      go_wp2
      go_meet
      case rel => exact ⟨_, (true), (by first | rfl | (simp; done) | (simp [*]; done)), H', ⟨by first | omega | exact Nat.le_refl _⟩, ⟨by repeat (first | (with_reducible first | exact HB.out | apply below_alloc | apply pw_below_drewN | apply below_drew1) | exact HB.out)⟩⟩
    · rw [if_neg c6] at H
      have c6b0 : decide (1000 < (l0.length : Int)) = false := decide_eq_false c6
      have c6b1 : decide (1000 < l0.length) = false := decide_eq_false (by omega)
      clear c6
      (first | rw [c6b0] | (simp only [i64_w, i32_w]; rw [c6b0]) | skip)
      by_cases c7 : a2 = 0
      · rw [if_pos c7] at H
        have c7b0 : (a2 == 0) = true := beq_iff_eq.mpr c7
        have c7b1 : (a2 != 0) = false := bne_eq_false_iff_eq.mpr c7
        clear c7
        have H' := Aside0.mk H
        clear H
        go_wp2
        go_meet
        case rel => exact ⟨_, ((a3 == 0)), (by first | rfl | (simp; done) | (simp [*]; done)), H', ⟨by first | omega | exact Nat.le_refl _⟩, ⟨by repeat (first | (with_reducible first | exact HB.out | apply below_alloc | apply pw_below_drewN | apply below_drew1) | exact HB.out)⟩⟩
      · rw [if_neg c7] at H
        have c7b0 : (a2 == 0) = false := beq_eq_false_iff_ne.mpr c7
        have c7b1 : (a2 != 0) = true := bne_iff_ne.mpr c7
        have H' := Aside0.mk H
        clear H
        go_wp2
        go_meet
        case rel => exact ⟨_, (false), (by first | rfl | (simp; done) | (simp [*]; done)), H', ⟨by first | omega | exact Nat.le_refl _⟩, ⟨by repeat (first | (with_reducible first | exact HB.out | apply below_alloc | apply pw_below_drewN | apply below_drew1) | exact HB.out)⟩⟩
  case rest =>
    clear HC5
    try clear p2
    try clear c6
    try clear c6b0
    try clear c6b1
    try clear c7
    try clear c7b0
    try clear c7b1
    obtain ⟨kq, x23_4, rfl, HA, HJ4, HB⟩ := hcut
    cases kq with
    | zero => exact absurd HA.out (by simp [estafettelaw09_SumTurned.j0])
    | succ kj4 =>
      have H := HA.out
      clear HA
      simp only [estafettelaw09_SumTurned.j0] at H
      by_cases c8 : x23_4 = true
      · subst c8
        have H1 : ((Hand.answers.f).bind fun t168 => (some t168)) = some r := by rw [if_pos rfl] at H; exact H
        clear H
        have H := H1
        clear H1
        replace H := Option.bind_eq_some_iff.mp H
        obtain ⟨t168, A90, H⟩ := H
        replace H : (some t168) = some r := H
        have A9 := Aside0.mk A90
        clear A90
        obtain rfl := Option.some.inj H
        go_wp2_with (first | ((with_reducible refine gate_callee (f := 7) rfl ?_); refine goesL_ (some 24) rfl rfl Try.func7 (by kernel_rfl) rfl #[] rfl (by (try simp only [List.map_toArray, List.map_cons, List.map_nil]); first | done | rfl | (simp only [List.length_drop, List.length_take]; rfl)) ?_; (with_reducible refine (Hand.answers.calls  t168 _ A9.out).mono ?_); rintro e w10 ⟨rfl, hb⟩; refine ⟨_, rfl, ?_⟩; have n0_ := Aside0.mk (below_step (by repeat (first | (with_reducible first | exact HB.out | apply below_alloc | apply pw_below_drewN | apply below_drew1) | exact HB.out)) hb); clear HB; have HB := n0_; clear n0_; (try clear hb); (try clear hb2); (try clear hk); (try clear hi)))
        go_ret
        exact ⟨by first | rfl | (simp [errW_none, errW_some] <;> rfl) | (simp [*, errW_none, errW_some] <;> rfl), by repeat (first | (with_reducible first | exact HB.out | apply below_alloc | apply pw_below_drewN | apply below_drew1) | exact HB.out)⟩
      · replace c8 := Bool.eq_false_iff.mpr c8
        subst c8
        have H1 : ((PA.estafetteref08_Seal.f kj4 l0).bind fun t169 => (if (wrap64 ((t169.length : Int) - 1)) = 0 then (none) else (if 0 ≤ (Int.tmod (wrap64 (a1)) (wrap64 ((t169.length : Int) - 1))) then (if (Int.tmod (wrap64 (a1)) (wrap64 ((t169.length : Int) - 1))) < (t169.length : Int) then ((some (t169.set ((Int.tmod (wrap64 (a1)) (wrap64 ((t169.length : Int) - 1))) : Int).toNat (Go.bits .xor .u8 (rd t169 (Int.tmod (wrap64 (a1)) (wrap64 ((t169.length : Int) - 1)))) a2) : List Int)).bind fun y173 => (if 0 ≤ (wrap64 ((Int.tmod (wrap64 (a1)) (wrap64 ((t169.length : Int) - 1))) + 1)) then (if (wrap64 ((Int.tmod (wrap64 (a1)) (wrap64 ((t169.length : Int) - 1))) + 1)) < (t169.length : Int) then ((PA.sum_Open.f kj4 (y173.set ((wrap64 ((Int.tmod (wrap64 (a1)) (wrap64 ((t169.length : Int) - 1))) + 1)) : Int).toNat (Go.bits .xor .u8 (rd y173 (wrap64 ((Int.tmod (wrap64 (a1)) (wrap64 ((t169.length : Int) - 1))) + 1))) a3))).bind fun bt176 => ((Hand.answers.f).bind fun t180 => (if t180 = true then (if bt176.2 = true then (some false) else (some ((bt176.1.length : Int) == 0))) else (some false)))) else (none)) else (none))) else (none)) else (none)))) = some r := by rw [if_neg (show ¬ (false = true) by decide)] at H; exact H
        clear H
        have H := H1
        clear H1
        replace H := Option.bind_eq_some_iff.mp H
        obtain ⟨t169, A110, H⟩ := H
        replace H : (if (wrap64 ((t169.length : Int) - 1)) = 0 then (none) else (if 0 ≤ (Int.tmod (wrap64 (a1)) (wrap64 ((t169.length : Int) - 1))) then (if (Int.tmod (wrap64 (a1)) (wrap64 ((t169.length : Int) - 1))) < (t169.length : Int) then ((some (t169.set ((Int.tmod (wrap64 (a1)) (wrap64 ((t169.length : Int) - 1))) : Int).toNat (Go.bits .xor .u8 (rd t169 (Int.tmod (wrap64 (a1)) (wrap64 ((t169.length : Int) - 1)))) a2) : List Int)).bind fun y173 => (if 0 ≤ (wrap64 ((Int.tmod (wrap64 (a1)) (wrap64 ((t169.length : Int) - 1))) + 1)) then (if (wrap64 ((Int.tmod (wrap64 (a1)) (wrap64 ((t169.length : Int) - 1))) + 1)) < (t169.length : Int) then ((PA.sum_Open.f kj4 (y173.set ((wrap64 ((Int.tmod (wrap64 (a1)) (wrap64 ((t169.length : Int) - 1))) + 1)) : Int).toNat (Go.bits .xor .u8 (rd y173 (wrap64 ((Int.tmod (wrap64 (a1)) (wrap64 ((t169.length : Int) - 1))) + 1))) a3))).bind fun bt176 => ((Hand.answers.f).bind fun t180 => (if t180 = true then (if bt176.2 = true then (some false) else (some ((bt176.1.length : Int) == 0))) else (some false)))) else (none)) else (none))) else (none)) else (none))) = some r := H
        have A11 := Aside0.mk A110
        clear A110
        by_cases c12 : (wrap64 ((t169.length : Int) - 1)) = 0
        · rw [if_pos c12] at H
          exact absurd H (by simp)
        · rw [if_neg c12] at H
          have c12b0 : ((wrap64 ((t169.length : Int) - 1)) == 0) = false := beq_eq_false_iff_ne.mpr c12
          have c12b1 : ((wrap64 ((t169.length : Int) - 1)) != 0) = true := bne_iff_ne.mpr c12
          obtain ⟨ji13, hji13⟩ : ∃ j_ : Int, (Int.tmod (wrap64 (a1)) (wrap64 ((t169.length : Int) - 1))) = j_ := ⟨_, rfl⟩
          replace H : (if 0 ≤ (ji13) then (if (ji13) < (t169.length : Int) then ((some (t169.set ((ji13) : Int).toNat (Go.bits .xor .u8 (rd t169 (ji13)) a2) : List Int)).bind fun y173 => (if 0 ≤ (wrap64 ((ji13) + 1)) then (if (wrap64 ((ji13) + 1)) < (t169.length : Int) then ((PA.sum_Open.f kj4 (y173.set ((wrap64 ((ji13) + 1)) : Int).toNat (Go.bits .xor .u8 (rd y173 (wrap64 ((ji13) + 1))) a3))).bind fun bt176 => ((Hand.answers.f).bind fun t180 => (if t180 = true then (if bt176.2 = true then (some false) else (some ((bt176.1.length : Int) == 0))) else (some false)))) else (none)) else (none))) else (none)) else (none)) = some r := by first | (rw [hji13] at H; exact H) | (simp only [hji13] at H ⊢; exact H)
          (try rw [hji13] at A11)
          by_cases c14 : 0 ≤ (ji13)
          · rw [if_pos c14] at H
            have c14b0 : decide (0 ≤ (ji13)) = true := decide_eq_true c14
            clear c14
            by_cases c15 : (ji13) < (t169.length : Int)
            · rw [if_pos c15] at H
              have c15b0 : decide ((ji13) < (t169.length : Int)) = true := decide_eq_true c15
              clear c15
              obtain ⟨y173, hy173⟩ : ∃ y_ : List Int, y_ = (t169.set ((ji13) : Int).toNat (Go.bits .xor .u8 (rd t169 (ji13)) a2)) := ⟨_, rfl⟩
              replace H : (if 0 ≤ (wrap64 ((ji13) + 1)) then (if (wrap64 ((ji13) + 1)) < (t169.length : Int) then ((PA.sum_Open.f kj4 (y173.set ((wrap64 ((ji13) + 1)) : Int).toNat (Go.bits .xor .u8 (rd y173 (wrap64 ((ji13) + 1))) a3))).bind fun bt176 => ((Hand.answers.f).bind fun t180 => (if t180 = true then (if bt176.2 = true then (some false) else (some ((bt176.1.length : Int) == 0))) else (some false)))) else (none)) else (none)) = some r := by first | (rw [hy173]; with_reducible exact H) | (have H2_ := (Option.bind_some _ _).symm.trans H; rw [hy173]; with_reducible exact H2_) | (have H2_ := (Option.bind_some _ _).symm.trans H; with_reducible exact H2_) | with_reducible exact H | (rw [hy173]; exact H) | exact H
              have Ny173 := Aside0.mk hy173
              clear hy173
              obtain ⟨ji17, hji17⟩ : ∃ j_ : Int, (wrap64 ((ji13) + 1)) = j_ := ⟨_, rfl⟩
              replace H : (if 0 ≤ (ji17) then (if (ji17) < (t169.length : Int) then ((PA.sum_Open.f kj4 (y173.set ((ji17) : Int).toNat (Go.bits .xor .u8 (rd y173 (ji17)) a3))).bind fun bt176 => ((Hand.answers.f).bind fun t180 => (if t180 = true then (if bt176.2 = true then (some false) else (some ((bt176.1.length : Int) == 0))) else (some false)))) else (none)) else (none)) = some r := by first | (rw [hji17] at H; exact H) | (simp only [hji17] at H ⊢; exact H)
              (try rw [hji17] at A11)
              have hji17w : (IntKind.i64.wrap ((ji13) + 1)) = ji17 := (i64_w _).trans hji17
              by_cases c18 : 0 ≤ (ji17)
              · rw [if_pos c18] at H
                have c18b0 : decide (0 ≤ (ji17)) = true := decide_eq_true c18
                clear c18
                by_cases c19 : (ji17) < (t169.length : Int)
                · rw [if_pos c19] at H
                  have c19b0 : decide ((ji17) < (t169.length : Int)) = true := decide_eq_true c19
                  clear c19
                  obtain ⟨y175, hy175⟩ : ∃ y_ : List Int, y_ = (y173.set ((ji17) : Int).toNat (Go.bits .xor .u8 (rd y173 (ji17)) a3)) := ⟨_, rfl⟩
                  replace H : ((PA.sum_Open.f kj4 y175).bind fun bt176 => ((Hand.answers.f).bind fun t180 => (if t180 = true then (if bt176.2 = true then (some false) else (some ((bt176.1.length : Int) == 0))) else (some false)))) = some r := by first | (rw [hy175]; with_reducible exact H) | (have H2_ := (Option.bind_some _ _).symm.trans H; rw [hy175]; with_reducible exact H2_) | (have H2_ := (Option.bind_some _ _).symm.trans H; with_reducible exact H2_) | with_reducible exact H | (rw [hy175]; exact H) | exact H
                  have Ny175 := Aside0.mk hy175
                  clear hy175
                  replace H := Option.bind_eq_some_iff.mp H
                  obtain ⟨⟨t176, t177⟩, A210, H⟩ := H
                  replace H : ((Hand.answers.f).bind fun t180 => (if t180 = true then (if t177 = true then (some false) else (some ((t176.length : Int) == 0))) else (some false))) = some r := H
                  have A21 := Aside0.mk A210
                  clear A210
                  replace H := Option.bind_eq_some_iff.mp H
                  obtain ⟨t180, A220, H⟩ := H
                  replace H : (if t180 = true then (if t177 = true then (some false) else (some ((t176.length : Int) == 0))) else (some false)) = some r := H
                  have A22 := Aside0.mk A220
                  clear A220
                  by_cases c23 : t180 = true
                  · subst c23
                    have H1 : (if t177 = true then (some false) else (some ((t176.length : Int) == 0))) = some r := by rw [if_pos rfl] at H; exact H
                    clear H
                    have H := H1
                    clear H1
                    by_cases c24 : t177 = true
                    · subst c24
                      have H1 : (some false) = some r := by rw [if_pos rfl] at H; exact H
                      clear H
                      have H := H1
                      clear H1
                      obtain rfl := Option.some.inj H
                      go_wp2_with (first | ((with_reducible refine gate_callee (f := 13) rfl ?_); refine goesL_ (some 26) rfl rfl Try.func13 (by kernel_rfl) rfl #[.slice A0 l0.length c0] rfl (by (try simp only [List.map_toArray, List.map_cons, List.map_nil]); first | done | rfl | (simp only [List.length_drop, List.length_take]; rfl)) ?_; (with_reducible refine (PA.estafetteref08_Seal.calls kj4 _ _ l0 t169 _ ?side1 ?side2 A11.out).mono ?_); (case side1 => repeat (first | exact (Kd.C_below HR0.out HB.out) | (with_reducible refine Kd.C_alloc ?_ _) | (with_reducible refine Kd.C_drewN ?_ _) | (with_reducible refine Kd.C_drew ?_))); (case side2 => exact HC0.out); rintro e w25 ⟨v170, rfl, ho0, hb⟩; refine ⟨_, rfl, ?_⟩; have n0_ := Aside0.mk (Kd.R_lower ho0 (below_size (by repeat (first | (with_reducible first | exact HB.out | apply below_alloc | apply pw_below_drewN | apply below_drew1) | exact HB.out)))); have n1_ := Aside0.mk (below_step (by repeat (first | (with_reducible first | exact HB.out | apply below_alloc | apply pw_below_drewN | apply below_drew1) | exact HB.out)) hb); clear HB; have HO171 := n0_; have HB := n1_; clear n0_ n1_; (try clear hb); (try clear hb2); (try clear hk); (try clear hi); (try clear ho0); obtain ⟨Ao26, co26, eo26⟩ := Kd.R_slice HO171.out; subst eo26; have p172 : 0 ≤ ((ji13) : Int) := of_decide_eq_true (by first | (with_reducible assumption) | assumption); have q172 : (ji13) < (t169.length : Int) := of_decide_eq_true (by first | (with_reducible assumption) | assumption); obtain ⟨ad172, e172, hx172_0⟩ := Kd.at_int (Kd.R_reads' HO171.out).2.2 (ji13) p172 q172; cases e172; replace p172 := eq_true p172; replace q172 := eq_true q172; have p16 : 0 ≤ ((ji13) : Int) := of_decide_eq_true (by first | (with_reducible assumption) | assumption); have q16 : ((ji13) : Int) < ((t169.length : Int) : Int) := of_decide_eq_true (by first | (with_reducible assumption) | assumption); obtain ⟨go16, co16, eo16, gb16, gl16, cl16, HG16⟩ := Kd.R_form HO171.out (by omega); (first | cases eo16 | (injection eo16 with ea_ en_ ec_; (first | subst ea_ | (injection ea_ with ea_; subst ea_)); subst ec_; clear en_)); have GB16 := Aside0.mk gb16; have GG16 := Aside0.mk HG16; clear gb16 gl16 HG16; (first | simp only [add_plain] at hx172_0 | skip); obtain ⟨hx16_0, hf16_0⟩ := Kd.R_celln 0 HO171.out ((ji13) : Int) p16 q16; replace p16 := eq_true p16; replace q16 := eq_true q16; obtain ⟨hy27_, hz27_⟩ := Kd.R_celln 0 HO171.out ((ji13) : Int) (of_decide_eq_true (by first | (with_reducible assumption) | assumption)) (of_decide_eq_true (by first | (with_reducible assumption) | assumption)); have HP27 := Kd.R_putg HO171.out ((ji13) : Int) (Go.bits .xor .u8 (rd t169 (ji13)) a2)) | ((with_reducible refine gate_store (t := 5) (p := 39) rfl ?_); refine store_event (t := 5) (p := 39) (v := ?vo_w28) (w1 := (w25.setCell ⟨go16, ((ji13) : Int).toNat, none⟩ (.int .u8 (Go.bits .xor .u8 (rd t169 (ji13)) a2)))) ?hg ?ho ?hn ?hr ?_; (case ho => rfl); (case hg => rfl); (case hn => rfl); (case hr => first | (go_simp; done) | (go_simp; rfl)); intro w28 hw; have hg : w25.grownBy w28 (some go16) := (by rw [hw]; exact HP27.2); have hp_ : Kd.R (Kd.int .u8) 5 w28 w.heap.size (fun _ => True) (.slice (some ⟨go16, 0, none⟩) t169.length co26) y173 := (by rw [hw, Ny173.out]; exact HP27.1); clear HP27; have n0_ := Aside0.mk (hp_); have n1_ := Aside0.mk ((by rw [hw]; exact below_set (HB.out) GB16.out : Below w.heap.size w w28)); clear HO171; clear HB; have HO171 := n0_; have HB := n1_; clear n0_ n1_; clear hg hw hp_; have p174 : 0 ≤ ((ji17) : Int) := of_decide_eq_true (by first | (with_reducible assumption) | assumption); have q174 : (ji17) < (y173.length : Int) := (by have h_ : ((ji17) : Int) < ((t169.length : Int) : Int) := of_decide_eq_true (by first | (with_reducible assumption) | assumption); first | (have e_ := (Kd.R_reads' HO171.out).1; omega) | simpa only [Ny173.out, List.length_set] using h_); have ql174 : (((ji17) : Int) < ((t169.length : Int) : Int)) = True := eq_true (of_decide_eq_true (by first | (with_reducible assumption) | assumption)); obtain ⟨ad174, e174, hx174_0⟩ := Kd.at_int (Kd.R_reads' HO171.out).2.2 (ji17) p174 q174; obtain rfl : (⟨go16, 0, none⟩ : Addr) = ad174 := (by injection e174); (first | simp only [add_plain] at hx174_0 | simp only [add_at] at hx174_0 | simp only [Addr.add, Nat.zero_add] at hx174_0 | skip); replace p174 := eq_true p174; replace q174 := eq_true q174; have p20 : 0 ≤ ((ji17) : Int) := of_decide_eq_true (by first | (with_reducible assumption) | assumption); have q20 : ((ji17) : Int) < ((t169.length : Int) : Int) := of_decide_eq_true (by first | (with_reducible assumption) | assumption); obtain ⟨hx20_0, hf20_0⟩ := Kd.R_celln 0 HO171.out ((ji17) : Int) p20 q20; replace p20 := eq_true p20; replace q20 := eq_true q20; obtain ⟨hy29_, hz29_⟩ := Kd.R_celln 0 HO171.out ((ji17) : Int) (of_decide_eq_true (by first | (with_reducible assumption) | assumption)) (of_decide_eq_true (by first | (with_reducible assumption) | assumption)); have HP29 := Kd.R_putg HO171.out ((ji17) : Int) (Go.bits .xor .u8 (rd y173 (ji17)) a3)) | ((with_reducible refine gate_store (t := 5) (p := 47) rfl ?_); refine store_event (t := 5) (p := 47) (v := ?vo_w30) (w1 := (w28.setCell ⟨go16, ((ji17) : Int).toNat, none⟩ (.int .u8 (Go.bits .xor .u8 (rd y173 (ji17)) a3)))) ?hg ?ho ?hn ?hr ?_; (case ho => rfl); (case hg => rfl); (case hn => rfl); (case hr => first | (go_simp; done) | (go_simp; rfl)); intro w30 hw; have hg : w28.grownBy w30 (some go16) := (by rw [hw]; exact HP29.2); have hp_ : Kd.R (Kd.int .u8) 5 w30 w.heap.size (fun _ => True) (.slice (some ⟨go16, 0, none⟩) t169.length co26) y175 := (by rw [hw, Ny175.out]; exact HP29.1); clear HP29; have n0_ := Aside0.mk (hp_); have n1_ := Aside0.mk ((by rw [hw]; exact below_set (HB.out) GB16.out : Below w.heap.size w w30)); clear HO171; clear HB; have HO171 := n0_; have HB := n1_; clear n0_ n1_; clear hg hw hp_) | ((with_reducible refine gate_callee (f := 11) rfl ?_); refine goesL_ (some 50) rfl rfl Try.func11 (by kernel_rfl) rfl #[.slice (some ⟨go16, 0, none⟩) y175.length co26] rfl (by (try simp only [List.map_toArray, List.map_cons, List.map_nil]); first | done | (rw [show y175.length = t169.length from (Kd.R_reads' HO171.out).1.symm] <;> rfl) | rfl | (simp only [List.length_drop, List.length_take]; rfl)) ?_; (with_reducible refine (PA.sum_Open.calls kj4 _ _ y175 t176 true _ ?side1 ?side2 A21.out).mono ?_); (case side1 => repeat (first | exact (Kd.R_reads' HO171.out).2.2 | (with_reducible refine Kd.C_alloc ?_ _) | (with_reducible refine Kd.C_drewN ?_ _) | (with_reducible refine Kd.C_drew ?_))); (case side2 => rw [show y175.length = t169.length from (Kd.R_reads' HO171.out).1.symm]; exact (Kd.R_reads' HO171.out).2.1); rintro e w31 ⟨v178, rfl, ho0, hb⟩; refine ⟨_, rfl, ?_⟩; have n0_ := Aside0.mk (Kd.R_elder' (by (with_reducible repeat (first | apply Kd.R_alloc | apply Kd.R_drewN | apply Kd.R_drew)); exact HO171.out) (Kd.R_base ho0) hb); have n1_ := Aside0.mk (Kd.R_lower (Kd.R_new' ho0 (Kd.R_lt (by (with_reducible repeat (first | apply Kd.R_alloc | apply Kd.R_drewN | apply Kd.R_drew)); exact HO171.out))) (below_size (by repeat (first | (with_reducible first | exact HB.out | apply below_alloc | apply pw_below_drewN | apply below_drew1) | exact HB.out)))); have n2_ := Aside0.mk (below_step (by repeat (first | (with_reducible first | exact HB.out | apply below_alloc | apply pw_below_drewN | apply below_drew1) | exact HB.out)) hb); clear HO171; clear HB; have HO171 := n0_; have HO179 := n1_; have HB := n2_; clear n0_ n1_ n2_; (try clear hb); (try clear hb2); (try clear hk); (try clear hi); (try clear ho0)) | ((with_reducible refine gate_callee (f := 7) rfl ?_); refine goesL_ (some 53) rfl rfl Try.func7 (by kernel_rfl) rfl #[] rfl (by (try simp only [List.map_toArray, List.map_cons, List.map_nil]); first | done | rfl | (simp only [List.length_drop, List.length_take]; rfl)) ?_; (with_reducible refine (Hand.answers.calls  true _ A22.out).mono ?_); rintro e w32 ⟨rfl, hb⟩; refine ⟨_, rfl, ?_⟩; have n0_ := Aside0.mk (Kd.R_below (by (with_reducible repeat (first | apply Kd.R_alloc | apply Kd.R_drewN | apply Kd.R_drew)); exact HO171.out) hb); have n1_ := Aside0.mk (Kd.R_below (by (with_reducible repeat (first | apply Kd.R_alloc | apply Kd.R_drewN | apply Kd.R_drew)); exact HO179.out) hb); have n2_ := Aside0.mk (below_step (by repeat (first | (with_reducible first | exact HB.out | apply below_alloc | apply pw_below_drewN | apply below_drew1) | exact HB.out)) hb); clear HO171; clear HO179; clear HB; have HO171 := n0_; have HO179 := n1_; have HB := n2_; clear n0_ n1_ n2_; (try clear hb); (try clear hb2); (try clear hk); (try clear hi)))
                      go_ret
                      exact ⟨by first | rfl | (simp [errW_none, errW_some] <;> rfl) | (simp only [← hji13, ← hji17]; first | rfl | (simp [errW_none, errW_some] <;> rfl)) | (simp [*, errW_none, errW_some] <;> rfl), by repeat (first | (with_reducible first | exact HB.out | apply below_alloc | apply pw_below_drewN | apply below_drew1) | exact HB.out)⟩
                    · replace c24 := Bool.eq_false_iff.mpr c24
                      subst c24
                      have H1 : (some ((t176.length : Int) == 0)) = some r := by rw [if_neg (show ¬ (false = true) by decide)] at H; exact H
                      clear H
                      have H := H1
                      clear H1
                      obtain rfl := Option.some.inj H
                      go_wp2_with (first | ((with_reducible refine gate_callee (f := 13) rfl ?_); refine goesL_ (some 26) rfl rfl Try.func13 (by kernel_rfl) rfl #[.slice A0 l0.length c0] rfl (by (try simp only [List.map_toArray, List.map_cons, List.map_nil]); first | done | rfl | (simp only [List.length_drop, List.length_take]; rfl)) ?_; (with_reducible refine (PA.estafetteref08_Seal.calls kj4 _ _ l0 t169 _ ?side1 ?side2 A11.out).mono ?_); (case side1 => repeat (first | exact (Kd.C_below HR0.out HB.out) | (with_reducible refine Kd.C_alloc ?_ _) | (with_reducible refine Kd.C_drewN ?_ _) | (with_reducible refine Kd.C_drew ?_))); (case side2 => exact HC0.out); rintro e w33 ⟨v170, rfl, ho0, hb⟩; refine ⟨_, rfl, ?_⟩; have n0_ := Aside0.mk (Kd.R_lower ho0 (below_size (by repeat (first | (with_reducible first | exact HB.out | apply below_alloc | apply pw_below_drewN | apply below_drew1) | exact HB.out)))); have n1_ := Aside0.mk (below_step (by repeat (first | (with_reducible first | exact HB.out | apply below_alloc | apply pw_below_drewN | apply below_drew1) | exact HB.out)) hb); clear HB; have HO171 := n0_; have HB := n1_; clear n0_ n1_; (try clear hb); (try clear hb2); (try clear hk); (try clear hi); (try clear ho0); obtain ⟨Ao34, co34, eo34⟩ := Kd.R_slice HO171.out; subst eo34; have p172 : 0 ≤ ((ji13) : Int) := of_decide_eq_true (by first | (with_reducible assumption) | assumption); have q172 : (ji13) < (t169.length : Int) := of_decide_eq_true (by first | (with_reducible assumption) | assumption); obtain ⟨ad172, e172, hx172_0⟩ := Kd.at_int (Kd.R_reads' HO171.out).2.2 (ji13) p172 q172; cases e172; replace p172 := eq_true p172; replace q172 := eq_true q172; have p16 : 0 ≤ ((ji13) : Int) := of_decide_eq_true (by first | (with_reducible assumption) | assumption); have q16 : ((ji13) : Int) < ((t169.length : Int) : Int) := of_decide_eq_true (by first | (with_reducible assumption) | assumption); obtain ⟨go16, co16, eo16, gb16, gl16, cl16, HG16⟩ := Kd.R_form HO171.out (by omega); (first | cases eo16 | (injection eo16 with ea_ en_ ec_; (first | subst ea_ | (injection ea_ with ea_; subst ea_)); subst ec_; clear en_)); have GB16 := Aside0.mk gb16; have GG16 := Aside0.mk HG16; clear gb16 gl16 HG16; (first | simp only [add_plain] at hx172_0 | skip); obtain ⟨hx16_0, hf16_0⟩ := Kd.R_celln 0 HO171.out ((ji13) : Int) p16 q16; replace p16 := eq_true p16; replace q16 := eq_true q16; obtain ⟨hy35_, hz35_⟩ := Kd.R_celln 0 HO171.out ((ji13) : Int) (of_decide_eq_true (by first | (with_reducible assumption) | assumption)) (of_decide_eq_true (by first | (with_reducible assumption) | assumption)); have HP35 := Kd.R_putg HO171.out ((ji13) : Int) (Go.bits .xor .u8 (rd t169 (ji13)) a2)) | ((with_reducible refine gate_store (t := 5) (p := 39) rfl ?_); refine store_event (t := 5) (p := 39) (v := ?vo_w36) (w1 := (w33.setCell ⟨go16, ((ji13) : Int).toNat, none⟩ (.int .u8 (Go.bits .xor .u8 (rd t169 (ji13)) a2)))) ?hg ?ho ?hn ?hr ?_; (case ho => rfl); (case hg => rfl); (case hn => rfl); (case hr => first | (go_simp; done) | (go_simp; rfl)); intro w36 hw; have hg : w33.grownBy w36 (some go16) := (by rw [hw]; exact HP35.2); have hp_ : Kd.R (Kd.int .u8) 5 w36 w.heap.size (fun _ => True) (.slice (some ⟨go16, 0, none⟩) t169.length co34) y173 := (by rw [hw, Ny173.out]; exact HP35.1); clear HP35; have n0_ := Aside0.mk (hp_); have n1_ := Aside0.mk ((by rw [hw]; exact below_set (HB.out) GB16.out : Below w.heap.size w w36)); clear HO171; clear HB; have HO171 := n0_; have HB := n1_; clear n0_ n1_; clear hg hw hp_; have p174 : 0 ≤ ((ji17) : Int) := of_decide_eq_true (by first | (with_reducible assumption) | assumption); have q174 : (ji17) < (y173.length : Int) := (by have h_ : ((ji17) : Int) < ((t169.length : Int) : Int) := of_decide_eq_true (by first | (with_reducible assumption) | assumption); first | (have e_ := (Kd.R_reads' HO171.out).1; omega) | simpa only [Ny173.out, List.length_set] using h_); have ql174 : (((ji17) : Int) < ((t169.length : Int) : Int)) = True := eq_true (of_decide_eq_true (by first | (with_reducible assumption) | assumption)); obtain ⟨ad174, e174, hx174_0⟩ := Kd.at_int (Kd.R_reads' HO171.out).2.2 (ji17) p174 q174; obtain rfl : (⟨go16, 0, none⟩ : Addr) = ad174 := (by injection e174); (first | simp only [add_plain] at hx174_0 | simp only [add_at] at hx174_0 | simp only [Addr.add, Nat.zero_add] at hx174_0 | skip); replace p174 := eq_true p174; replace q174 := eq_true q174; have p20 : 0 ≤ ((ji17) : Int) := of_decide_eq_true (by first | (with_reducible assumption) | assumption); have q20 : ((ji17) : Int) < ((t169.length : Int) : Int) := of_decide_eq_true (by first | (with_reducible assumption) | assumption); obtain ⟨hx20_0, hf20_0⟩ := Kd.R_celln 0 HO171.out ((ji17) : Int) p20 q20; replace p20 := eq_true p20; replace q20 := eq_true q20; obtain ⟨hy37_, hz37_⟩ := Kd.R_celln 0 HO171.out ((ji17) : Int) (of_decide_eq_true (by first | (with_reducible assumption) | assumption)) (of_decide_eq_true (by first | (with_reducible assumption) | assumption)); have HP37 := Kd.R_putg HO171.out ((ji17) : Int) (Go.bits .xor .u8 (rd y173 (ji17)) a3)) | ((with_reducible refine gate_store (t := 5) (p := 47) rfl ?_); refine store_event (t := 5) (p := 47) (v := ?vo_w38) (w1 := (w36.setCell ⟨go16, ((ji17) : Int).toNat, none⟩ (.int .u8 (Go.bits .xor .u8 (rd y173 (ji17)) a3)))) ?hg ?ho ?hn ?hr ?_; (case ho => rfl); (case hg => rfl); (case hn => rfl); (case hr => first | (go_simp; done) | (go_simp; rfl)); intro w38 hw; have hg : w36.grownBy w38 (some go16) := (by rw [hw]; exact HP37.2); have hp_ : Kd.R (Kd.int .u8) 5 w38 w.heap.size (fun _ => True) (.slice (some ⟨go16, 0, none⟩) t169.length co34) y175 := (by rw [hw, Ny175.out]; exact HP37.1); clear HP37; have n0_ := Aside0.mk (hp_); have n1_ := Aside0.mk ((by rw [hw]; exact below_set (HB.out) GB16.out : Below w.heap.size w w38)); clear HO171; clear HB; have HO171 := n0_; have HB := n1_; clear n0_ n1_; clear hg hw hp_) | ((with_reducible refine gate_callee (f := 11) rfl ?_); refine goesL_ (some 50) rfl rfl Try.func11 (by kernel_rfl) rfl #[.slice (some ⟨go16, 0, none⟩) y175.length co34] rfl (by (try simp only [List.map_toArray, List.map_cons, List.map_nil]); first | done | (rw [show y175.length = t169.length from (Kd.R_reads' HO171.out).1.symm] <;> rfl) | rfl | (simp only [List.length_drop, List.length_take]; rfl)) ?_; (with_reducible refine (PA.sum_Open.calls kj4 _ _ y175 t176 false _ ?side1 ?side2 A21.out).mono ?_); (case side1 => repeat (first | exact (Kd.R_reads' HO171.out).2.2 | (with_reducible refine Kd.C_alloc ?_ _) | (with_reducible refine Kd.C_drewN ?_ _) | (with_reducible refine Kd.C_drew ?_))); (case side2 => rw [show y175.length = t169.length from (Kd.R_reads' HO171.out).1.symm]; exact (Kd.R_reads' HO171.out).2.1); rintro e w39 ⟨v178, rfl, ho0, hb⟩; refine ⟨_, rfl, ?_⟩; have n0_ := Aside0.mk (Kd.R_elder' (by (with_reducible repeat (first | apply Kd.R_alloc | apply Kd.R_drewN | apply Kd.R_drew)); exact HO171.out) (Kd.R_base ho0) hb); have n1_ := Aside0.mk (Kd.R_lower (Kd.R_new' ho0 (Kd.R_lt (by (with_reducible repeat (first | apply Kd.R_alloc | apply Kd.R_drewN | apply Kd.R_drew)); exact HO171.out))) (below_size (by repeat (first | (with_reducible first | exact HB.out | apply below_alloc | apply pw_below_drewN | apply below_drew1) | exact HB.out)))); have n2_ := Aside0.mk (below_step (by repeat (first | (with_reducible first | exact HB.out | apply below_alloc | apply pw_below_drewN | apply below_drew1) | exact HB.out)) hb); clear HO171; clear HB; have HO171 := n0_; have HO179 := n1_; have HB := n2_; clear n0_ n1_ n2_; (try clear hb); (try clear hb2); (try clear hk); (try clear hi); (try clear ho0)) | ((with_reducible refine gate_callee (f := 7) rfl ?_); refine goesL_ (some 53) rfl rfl Try.func7 (by kernel_rfl) rfl #[] rfl (by (try simp only [List.map_toArray, List.map_cons, List.map_nil]); first | done | rfl | (simp only [List.length_drop, List.length_take]; rfl)) ?_; (with_reducible refine (Hand.answers.calls  true _ A22.out).mono ?_); rintro e w40 ⟨rfl, hb⟩; refine ⟨_, rfl, ?_⟩; have n0_ := Aside0.mk (Kd.R_below (by (with_reducible repeat (first | apply Kd.R_alloc | apply Kd.R_drewN | apply Kd.R_drew)); exact HO171.out) hb); have n1_ := Aside0.mk (Kd.R_below (by (with_reducible repeat (first | apply Kd.R_alloc | apply Kd.R_drewN | apply Kd.R_drew)); exact HO179.out) hb); have n2_ := Aside0.mk (below_step (by repeat (first | (with_reducible first | exact HB.out | apply below_alloc | apply pw_below_drewN | apply below_drew1) | exact HB.out)) hb); clear HO171; clear HO179; clear HB; have HO171 := n0_; have HO179 := n1_; have HB := n2_; clear n0_ n1_ n2_; (try clear hb); (try clear hb2); (try clear hk); (try clear hi); obtain ⟨Ao41, co41, eo41⟩ := Kd.R_slice HO179.out; subst eo41))
                      go_ret
                      exact ⟨by first | rfl | (simp [errW_none, errW_some] <;> rfl) | (simp only [← hji13, ← hji17]; first | rfl | (simp [errW_none, errW_some] <;> rfl)) | (simp [*, errW_none, errW_some] <;> rfl), by repeat (first | (with_reducible first | exact HB.out | apply below_alloc | apply pw_below_drewN | apply below_drew1) | exact HB.out)⟩
                  · replace c23 := Bool.eq_false_iff.mpr c23
                    subst c23
                    have H1 : (some false) = some r := by rw [if_neg (show ¬ (false = true) by decide)] at H; exact H
                    clear H
                    have H := H1
                    clear H1
                    obtain rfl := Option.some.inj H
                    go_wp2_with (first | ((with_reducible refine gate_callee (f := 13) rfl ?_); refine goesL_ (some 26) rfl rfl Try.func13 (by kernel_rfl) rfl #[.slice A0 l0.length c0] rfl (by (try simp only [List.map_toArray, List.map_cons, List.map_nil]); first | done | rfl | (simp only [List.length_drop, List.length_take]; rfl)) ?_; (with_reducible refine (PA.estafetteref08_Seal.calls kj4 _ _ l0 t169 _ ?side1 ?side2 A11.out).mono ?_); (case side1 => repeat (first | exact (Kd.C_below HR0.out HB.out) | (with_reducible refine Kd.C_alloc ?_ _) | (with_reducible refine Kd.C_drewN ?_ _) | (with_reducible refine Kd.C_drew ?_))); (case side2 => exact HC0.out); rintro e w42 ⟨v170, rfl, ho0, hb⟩; refine ⟨_, rfl, ?_⟩; have n0_ := Aside0.mk (Kd.R_lower ho0 (below_size (by repeat (first | (with_reducible first | exact HB.out | apply below_alloc | apply pw_below_drewN | apply below_drew1) | exact HB.out)))); have n1_ := Aside0.mk (below_step (by repeat (first | (with_reducible first | exact HB.out | apply below_alloc | apply pw_below_drewN | apply below_drew1) | exact HB.out)) hb); clear HB; have HO171 := n0_; have HB := n1_; clear n0_ n1_; (try clear hb); (try clear hb2); (try clear hk); (try clear hi); (try clear ho0); obtain ⟨Ao43, co43, eo43⟩ := Kd.R_slice HO171.out; subst eo43; have p172 : 0 ≤ ((ji13) : Int) := of_decide_eq_true (by first | (with_reducible assumption) | assumption); have q172 : (ji13) < (t169.length : Int) := of_decide_eq_true (by first | (with_reducible assumption) | assumption); obtain ⟨ad172, e172, hx172_0⟩ := Kd.at_int (Kd.R_reads' HO171.out).2.2 (ji13) p172 q172; cases e172; replace p172 := eq_true p172; replace q172 := eq_true q172; have p16 : 0 ≤ ((ji13) : Int) := of_decide_eq_true (by first | (with_reducible assumption) | assumption); have q16 : ((ji13) : Int) < ((t169.length : Int) : Int) := of_decide_eq_true (by first | (with_reducible assumption) | assumption); obtain ⟨go16, co16, eo16, gb16, gl16, cl16, HG16⟩ := Kd.R_form HO171.out (by omega); (first | cases eo16 | (injection eo16 with ea_ en_ ec_; (first | subst ea_ | (injection ea_ with ea_; subst ea_)); subst ec_; clear en_)); have GB16 := Aside0.mk gb16; have GG16 := Aside0.mk HG16; clear gb16 gl16 HG16; (first | simp only [add_plain] at hx172_0 | skip); obtain ⟨hx16_0, hf16_0⟩ := Kd.R_celln 0 HO171.out ((ji13) : Int) p16 q16; replace p16 := eq_true p16; replace q16 := eq_true q16; obtain ⟨hy44_, hz44_⟩ := Kd.R_celln 0 HO171.out ((ji13) : Int) (of_decide_eq_true (by first | (with_reducible assumption) | assumption)) (of_decide_eq_true (by first | (with_reducible assumption) | assumption)); have HP44 := Kd.R_putg HO171.out ((ji13) : Int) (Go.bits .xor .u8 (rd t169 (ji13)) a2)) | ((with_reducible refine gate_store (t := 5) (p := 39) rfl ?_); refine store_event (t := 5) (p := 39) (v := ?vo_w45) (w1 := (w42.setCell ⟨go16, ((ji13) : Int).toNat, none⟩ (.int .u8 (Go.bits .xor .u8 (rd t169 (ji13)) a2)))) ?hg ?ho ?hn ?hr ?_; (case ho => rfl); (case hg => rfl); (case hn => rfl); (case hr => first | (go_simp; done) | (go_simp; rfl)); intro w45 hw; have hg : w42.grownBy w45 (some go16) := (by rw [hw]; exact HP44.2); have hp_ : Kd.R (Kd.int .u8) 5 w45 w.heap.size (fun _ => True) (.slice (some ⟨go16, 0, none⟩) t169.length co43) y173 := (by rw [hw, Ny173.out]; exact HP44.1); clear HP44; have n0_ := Aside0.mk (hp_); have n1_ := Aside0.mk ((by rw [hw]; exact below_set (HB.out) GB16.out : Below w.heap.size w w45)); clear HO171; clear HB; have HO171 := n0_; have HB := n1_; clear n0_ n1_; clear hg hw hp_; have p174 : 0 ≤ ((ji17) : Int) := of_decide_eq_true (by first | (with_reducible assumption) | assumption); have q174 : (ji17) < (y173.length : Int) := (by have h_ : ((ji17) : Int) < ((t169.length : Int) : Int) := of_decide_eq_true (by first | (with_reducible assumption) | assumption); first | (have e_ := (Kd.R_reads' HO171.out).1; omega) | simpa only [Ny173.out, List.length_set] using h_); have ql174 : (((ji17) : Int) < ((t169.length : Int) : Int)) = True := eq_true (of_decide_eq_true (by first | (with_reducible assumption) | assumption)); obtain ⟨ad174, e174, hx174_0⟩ := Kd.at_int (Kd.R_reads' HO171.out).2.2 (ji17) p174 q174; obtain rfl : (⟨go16, 0, none⟩ : Addr) = ad174 := (by injection e174); (first | simp only [add_plain] at hx174_0 | simp only [add_at] at hx174_0 | simp only [Addr.add, Nat.zero_add] at hx174_0 | skip); replace p174 := eq_true p174; replace q174 := eq_true q174; have p20 : 0 ≤ ((ji17) : Int) := of_decide_eq_true (by first | (with_reducible assumption) | assumption); have q20 : ((ji17) : Int) < ((t169.length : Int) : Int) := of_decide_eq_true (by first | (with_reducible assumption) | assumption); obtain ⟨hx20_0, hf20_0⟩ := Kd.R_celln 0 HO171.out ((ji17) : Int) p20 q20; replace p20 := eq_true p20; replace q20 := eq_true q20; obtain ⟨hy46_, hz46_⟩ := Kd.R_celln 0 HO171.out ((ji17) : Int) (of_decide_eq_true (by first | (with_reducible assumption) | assumption)) (of_decide_eq_true (by first | (with_reducible assumption) | assumption)); have HP46 := Kd.R_putg HO171.out ((ji17) : Int) (Go.bits .xor .u8 (rd y173 (ji17)) a3)) | ((with_reducible refine gate_store (t := 5) (p := 47) rfl ?_); refine store_event (t := 5) (p := 47) (v := ?vo_w47) (w1 := (w45.setCell ⟨go16, ((ji17) : Int).toNat, none⟩ (.int .u8 (Go.bits .xor .u8 (rd y173 (ji17)) a3)))) ?hg ?ho ?hn ?hr ?_; (case ho => rfl); (case hg => rfl); (case hn => rfl); (case hr => first | (go_simp; done) | (go_simp; rfl)); intro w47 hw; have hg : w45.grownBy w47 (some go16) := (by rw [hw]; exact HP46.2); have hp_ : Kd.R (Kd.int .u8) 5 w47 w.heap.size (fun _ => True) (.slice (some ⟨go16, 0, none⟩) t169.length co43) y175 := (by rw [hw, Ny175.out]; exact HP46.1); clear HP46; have n0_ := Aside0.mk (hp_); have n1_ := Aside0.mk ((by rw [hw]; exact below_set (HB.out) GB16.out : Below w.heap.size w w47)); clear HO171; clear HB; have HO171 := n0_; have HB := n1_; clear n0_ n1_; clear hg hw hp_) | ((with_reducible refine gate_callee (f := 11) rfl ?_); refine goesL_ (some 50) rfl rfl Try.func11 (by kernel_rfl) rfl #[.slice (some ⟨go16, 0, none⟩) y175.length co43] rfl (by (try simp only [List.map_toArray, List.map_cons, List.map_nil]); first | done | (rw [show y175.length = t169.length from (Kd.R_reads' HO171.out).1.symm] <;> rfl) | rfl | (simp only [List.length_drop, List.length_take]; rfl)) ?_; (with_reducible refine (PA.sum_Open.calls kj4 _ _ y175 t176 t177 _ ?side1 ?side2 A21.out).mono ?_); (case side1 => repeat (first | exact (Kd.R_reads' HO171.out).2.2 | (with_reducible refine Kd.C_alloc ?_ _) | (with_reducible refine Kd.C_drewN ?_ _) | (with_reducible refine Kd.C_drew ?_))); (case side2 => rw [show y175.length = t169.length from (Kd.R_reads' HO171.out).1.symm]; exact (Kd.R_reads' HO171.out).2.1); rintro e w48 ⟨v178, rfl, ho0, hb⟩; refine ⟨_, rfl, ?_⟩; have n0_ := Aside0.mk (Kd.R_elder' (by (with_reducible repeat (first | apply Kd.R_alloc | apply Kd.R_drewN | apply Kd.R_drew)); exact HO171.out) (Kd.R_base ho0) hb); have n1_ := Aside0.mk (Kd.R_lower (Kd.R_new' ho0 (Kd.R_lt (by (with_reducible repeat (first | apply Kd.R_alloc | apply Kd.R_drewN | apply Kd.R_drew)); exact HO171.out))) (below_size (by repeat (first | (with_reducible first | exact HB.out | apply below_alloc | apply pw_below_drewN | apply below_drew1) | exact HB.out)))); have n2_ := Aside0.mk (below_step (by repeat (first | (with_reducible first | exact HB.out | apply below_alloc | apply pw_below_drewN | apply below_drew1) | exact HB.out)) hb); clear HO171; clear HB; have HO171 := n0_; have HO179 := n1_; have HB := n2_; clear n0_ n1_ n2_; (try clear hb); (try clear hb2); (try clear hk); (try clear hi); (try clear ho0)) | ((with_reducible refine gate_callee (f := 7) rfl ?_); refine goesL_ (some 53) rfl rfl Try.func7 (by kernel_rfl) rfl #[] rfl (by (try simp only [List.map_toArray, List.map_cons, List.map_nil]); first | done | rfl | (simp only [List.length_drop, List.length_take]; rfl)) ?_; (with_reducible refine (Hand.answers.calls  false _ A22.out).mono ?_); rintro e w49 ⟨rfl, hb⟩; refine ⟨_, rfl, ?_⟩; have n0_ := Aside0.mk (Kd.R_below (by (with_reducible repeat (first | apply Kd.R_alloc | apply Kd.R_drewN | apply Kd.R_drew)); exact HO171.out) hb); have n1_ := Aside0.mk (Kd.R_below (by (with_reducible repeat (first | apply Kd.R_alloc | apply Kd.R_drewN | apply Kd.R_drew)); exact HO179.out) hb); have n2_ := Aside0.mk (below_step (by repeat (first | (with_reducible first | exact HB.out | apply below_alloc | apply pw_below_drewN | apply below_drew1) | exact HB.out)) hb); clear HO171; clear HO179; clear HB; have HO171 := n0_; have HO179 := n1_; have HB := n2_; clear n0_ n1_ n2_; (try clear hb); (try clear hb2); (try clear hk); (try clear hi)))
                    go_ret
                    exact ⟨by first | rfl | (simp [errW_none, errW_some] <;> rfl) | (simp only [← hji13, ← hji17]; first | rfl | (simp [errW_none, errW_some] <;> rfl)) | (simp [*, errW_none, errW_some] <;> rfl), by repeat (first | (with_reducible first | exact HB.out | apply below_alloc | apply pw_below_drewN | apply below_drew1) | exact HB.out)⟩
                · rw [if_neg c19] at H
                  exact absurd H (by simp)
              · rw [if_neg c18] at H
                exact absurd H (by simp)
            · rw [if_neg c15] at H
              exact absurd H (by simp)
          · rw [if_neg c14] at H
            exact absurd H (by simp)

/-- THE ONE PURE STATEMENT of estafettelaw09_SumTurned: yours. -/
def estafettelaw09_SumTurned.Pure : Prop := ∀ (l0 : List Int) (a1 : Int) (a2 : Int) (a3 : Int), l0.length ≤ maxLen → l0.length * 1 ≤ 140737488351232 → (∀ x ∈ l0, (Lit.int .u8 x).wf = true) → (Lit.int .u16 a1).wf = true → (Lit.int .u8 a2).wf = true → (Lit.int .u8 a3).wf = true → ∃ k, estafettelaw09_SumTurned.f k l0 a1 a2 a3 = some true
theorem estafettelaw09_SumTurned.walk (P : estafettelaw09_SumTurned.Pure) (a0 : Option Addr) (len0 cap0 : Nat) (z0 : List Int) (a1 : Int) (a2 : Int) (a3 : Int) (w : World) (w0 : (a0 = none ∧ len0 = 0 ∧ cap0 = 0 ∧ z0 = []) ∨ ∃ x, a0 = some x ∧ len0 ≤ cap0 ∧ cap0 ≤ maxLen ∧ z0.length = cap0 ∧ (∀ i, i < z0.length → w.cell? (x.add i) = some (.int .u8 (z0.getD i 0))) ∧ ∀ n ∈ z0, (Lit.int .u8 n).wf = true) (y0 : len0 * 1 ≤ 140737488351232) (w1 : (Lit.int .u16 a1).wf = true) (w2 : (Lit.int .u8 a2).wf = true) (w3 : (Lit.int .u8 a3).wf = true) :
    Calls Try.prog 6 #[.slice a0 len0 cap0, .int .u16 a1, .int .u8 a2, .int .u8 a3] w fun e w' => e = .returned (.bool true) ∧ Below w.heap.size w w' := by
  obtain ⟨l0, rfl, hr0, hm0, hw0, hc0⟩ := ReadsInt.ofRowC w0
  obtain ⟨k, h⟩ := P l0 a1 a2 a3 hm0 y0 hw0 w1 w2 w3
  refine (estafettelaw09_SumTurned.calls k _ _ l0 a1 a2 a3 true w (Kd.C_of_reads (d := (0 : Int)) (h1 := fun _ => rfl) hr0) hc0 h).mono ?_
  rintro e w' ⟨rfl, hd⟩
  exact ⟨rfl, hd⟩

end Go.Proofs.Ytmpjndbgelaihaa.PB
