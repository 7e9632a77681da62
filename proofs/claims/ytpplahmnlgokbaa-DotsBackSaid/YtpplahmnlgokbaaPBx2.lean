/- For every input: what the functions below return, or the statement that this text proves. Written by a program of this claim.s author (a turned print). -/
import Derived.Test.YtpplahmnlgokbaaPBx0
import Derived.Test.YtpplahmnlgokbaaPBx1
namespace Go.Proofs.Ytpplahmnlgokbaa.PB
open Go.RowKit Go.Proofs.YtpplahmnlgokbaaW.PrintWords Go.Proofs.YtpplahmnlgokbaaW.PrintLast Go.Proofs.YtpplahmnlgokbaaW.PrintMore
attribute [local go_sem] max2_int min2_int max_two min_two max_three min_three max_four min_four   -- for this text's walks alone
set_option linter.unusedVariables false
set_option linter.unusedSimpArgs false

/-! ### estafetteref01_Stuff: function 14 -/
def estafetteref01_Stuff.l0 : Nat → List ByteArray → ByteArray → Int → Option (ByteArray)
  | 0, _, _, _ => none
  | k + 1, x0, x3, x4 => if x4 < (x0.length : Int) then (if 0 ≤ x4 then (if ((rdOf ByteArray.empty x0 x4).size : Int) > 0 then (if 0 < ((rdOf ByteArray.empty x0 x4).size : Int) then (if (bt (rdOf ByteArray.empty x0 x4) 0) = 46 then (if x3.size + 1 ≤ 9223372036854775807 then (if (x3 ++ (⟨#[46]⟩ : ByteArray)).size + (rdOf ByteArray.empty x0 x4).size ≤ 9223372036854775807 then (if ((x3 ++ (⟨#[46]⟩ : ByteArray)) ++ (rdOf ByteArray.empty x0 x4)).size + 2 ≤ 9223372036854775807 then (estafetteref01_Stuff.l0 k x0 (((x3 ++ (⟨#[46]⟩ : ByteArray)) ++ (rdOf ByteArray.empty x0 x4)) ++ (⟨#[13, 10]⟩ : ByteArray)) (wrap64 (x4 + 1))) else (none)) else (none)) else (none)) else (if x3.size + (rdOf ByteArray.empty x0 x4).size ≤ 9223372036854775807 then (if (x3 ++ (rdOf ByteArray.empty x0 x4)).size + 2 ≤ 9223372036854775807 then (estafetteref01_Stuff.l0 k x0 ((x3 ++ (rdOf ByteArray.empty x0 x4)) ++ (⟨#[13, 10]⟩ : ByteArray)) (wrap64 (x4 + 1))) else (none)) else (none))) else (none)) else (if x3.size + (rdOf ByteArray.empty x0 x4).size ≤ 9223372036854775807 then (if (x3 ++ (rdOf ByteArray.empty x0 x4)).size + 2 ≤ 9223372036854775807 then (estafetteref01_Stuff.l0 k x0 ((x3 ++ (rdOf ByteArray.empty x0 x4)) ++ (⟨#[13, 10]⟩ : ByteArray)) (wrap64 (x4 + 1))) else (none)) else (none))) else (none)) else (if x3.size + 3 ≤ 9223372036854775807 then (some (x3 ++ (⟨#[46, 13, 10]⟩ : ByteArray))) else (none))
def estafetteref01_Stuff.f (k : Nat) (l0 : List ByteArray) : Option (ByteArray) := estafetteref01_Stuff.l0 k l0 (⟨#[]⟩ : ByteArray) 0
theorem estafetteref01_Stuff.mono_l : ∀ k, (∀ y0 y1 y2, LeO (estafetteref01_Stuff.l0 k y0 y1 y2) (estafetteref01_Stuff.l0 (k + 1) y0 y1 y2))
  | 0 => fun _ _ _ r h => by simp [estafetteref01_Stuff.l0] at h
  | k + 1 => by
    have ih0 := estafetteref01_Stuff.mono_l k
    · intro y0 y1 y2
      unfold estafetteref01_Stuff.l0
      repeat' first
      | (with_reducible exact ih0 _ _ _)
      | (with_reducible exact LeO.refl _)
      | (with_reducible exact LeO.none _)
      | (with_reducible refine LeO.ite ?_ ?_)
      | (with_reducible refine LeO.bind ?_ (fun _ => ?_))
      | exact ih0 _ _ _
      | exact LeO.none _
      | refine LeO.ite ?_ ?_
      | refine LeO.bind ?_ (fun _ => ?_)
theorem estafetteref01_Stuff.mono : ∀ a0 k, LeO (estafetteref01_Stuff.f k a0) (estafetteref01_Stuff.f (k + 1) a0) := by
  intro a0 k
  have ih0 := estafetteref01_Stuff.mono_l k
  unfold estafetteref01_Stuff.f
  repeat' first
      | (with_reducible exact ih0 _ _ _)
      | (with_reducible exact LeO.refl _)
      | (with_reducible exact LeO.none _)
      | (with_reducible refine LeO.ite ?_ ?_)
      | (with_reducible refine LeO.bind ?_ (fun _ => ?_))
      | exact ih0 _ _ _
      | exact LeO.none _
      | refine LeO.ite ?_ ?_
      | refine LeO.bind ?_ (fun _ => ?_)
set_option maxHeartbeats 8000000 in
set_option maxRecDepth 100000 in
theorem estafetteref01_Stuff.calls (k : Nat) (A0 : Option Addr) (c0 : Nat) (l0 : List ByteArray) (r : ByteArray) (w : World) (hr0 : Kd.C Kd.string w A0 l0.length l0) (hc0 : l0.length ≤ c0) (h : estafetteref01_Stuff.f k l0 = some r) :
    Calls Try.prog 14 #[.slice A0 l0.length c0] w fun e w' => e = .returned (.string r) ∧ Drawn0 w w' := by
  have HR0 := Aside0.mk hr0
  have HC0 := Aside0.mk hc0
  clear hr0 hc0
  have H : (estafetteref01_Stuff.l0 k l0 (⟨#[]⟩ : ByteArray) 0) = some r := h
  clear h
  have H' := Aside0.mk H
  clear H
  go_enter Try.func14, Try.ntmps14
  go_wp2
  go_loopg [3, 4] k (fun kq v3 v4 w' => ∃ (x3_1 : ByteArray) (x4_1 : Int), v3 = .string x3_1 ∧ v4 = .int .i64 x4_1 ∧ Aside0 (estafetteref01_Stuff.l0 kq l0 x3_1 x4_1 = some r) ∧ Aside0 (kq ≤ k) ∧ Drawn0 w w')
  case atStart => exact ⟨((⟨#[]⟩ : ByteArray)), (0), (by first | rfl | (simp; done) | (simp [*]; done)), (by first | rfl | (simp; done) | (simp [*]; done)), H', ⟨Nat.le_refl _⟩, by repeat (first | exact Drawn0.refl _ | apply Drawn0.step)⟩
  case round =>
    clear H'
    try clear c1
    obtain ⟨x3_1, x4_1, rfl, rfl, HA, HK1, ⟨m1, rfl⟩⟩ := hrel
    cases gk with
    | zero => exact absurd HA.out (by simp [estafetteref01_Stuff.l0])
    | succ k1 =>
      have H := HA.out
      clear HA
      simp only [estafetteref01_Stuff.l0] at H
      by_cases c2 : x4_1 < (l0.length : Int)
      · rw [if_pos c2] at H
        have c2b0 : decide (x4_1 < (l0.length : Int)) = true := decide_eq_true c2
        clear c2
        by_cases c3 : 0 ≤ x4_1
        · rw [if_pos c3] at H
          have c3b0 : decide (0 ≤ x4_1) = true := decide_eq_true c3
          clear c3
          by_cases c4 : ((rdOf ByteArray.empty l0 x4_1).size : Int) > 0
          · rw [if_pos c4] at H
            have c4b0 : decide (0 < ((rdOf ByteArray.empty l0 x4_1).size : Int)) = true := decide_eq_true c4
            have c4b1 : decide (0 < (rdOf ByteArray.empty l0 x4_1).size) = true := decide_eq_true (by omega)
            clear c4
            by_cases c5 : 0 < ((rdOf ByteArray.empty l0 x4_1).size : Int)
            · rw [if_pos c5] at H
              have c5b0 : decide (0 < ((rdOf ByteArray.empty l0 x4_1).size : Int)) = true := decide_eq_true c5
              have c5b1 : decide (0 < (rdOf ByteArray.empty l0 x4_1).size) = true := decide_eq_true (by omega)
              clear c5
              by_cases c7 : (bt (rdOf ByteArray.empty l0 x4_1) 0) = 46
              · rw [if_pos c7] at H
                have c7b0 : ((bt (rdOf ByteArray.empty l0 x4_1) 0) == 46) = true := beq_iff_eq.mpr c7
                have c7b1 : ((bt (rdOf ByteArray.empty l0 x4_1) 0) != 46) = false := bne_eq_false_iff_eq.mpr c7
                clear c7
                by_cases c8 : x3_1.size + 1 ≤ 9223372036854775807
                · rw [if_pos c8] at H
                  have c8b0 := eq_true c8
                  have c8b1 : decide (x3_1.size + 1 ≤ 9223372036854775807) = true := decide_eq_true c8
                  try have c8b2 : (9223372036854775807 < x3_1.size + 1) = False := eq_false (Nat.not_lt.2 c8)
                  by_cases c9 : (x3_1 ++ (⟨#[46]⟩ : ByteArray)).size + (rdOf ByteArray.empty l0 x4_1).size ≤ 9223372036854775807
                  · rw [if_pos c9] at H
                    have c9b0 := eq_true c9
                    have c9b1 : decide ((x3_1 ++ (⟨#[46]⟩ : ByteArray)).size + (rdOf ByteArray.empty l0 x4_1).size ≤ 9223372036854775807) = true := decide_eq_true c9
                    try have c9b2 : (9223372036854775807 < (x3_1 ++ (⟨#[46]⟩ : ByteArray)).size + (rdOf ByteArray.empty l0 x4_1).size) = False := eq_false (Nat.not_lt.2 c9)
                    have c9z0 : (⟨#[46]⟩ : ByteArray).size = 1 := rfl
                    (try (have c9p := c9; simp only [ByteArray.size_append, List.length_append, c9z0] at c9p))
                    (try (have c9q := eq_false (Nat.not_lt.2 c9p)))
                    by_cases c10 : ((x3_1 ++ (⟨#[46]⟩ : ByteArray)) ++ (rdOf ByteArray.empty l0 x4_1)).size + 2 ≤ 9223372036854775807
                    · rw [if_pos c10] at H
                      have c10b0 := eq_true c10
                      have c10b1 : decide (((x3_1 ++ (⟨#[46]⟩ : ByteArray)) ++ (rdOf ByteArray.empty l0 x4_1)).size + 2 ≤ 9223372036854775807) = true := decide_eq_true c10
                      try have c10b2 : (9223372036854775807 < ((x3_1 ++ (⟨#[46]⟩ : ByteArray)) ++ (rdOf ByteArray.empty l0 x4_1)).size + 2) = False := eq_false (Nat.not_lt.2 c10)
                      have c10z0 : (⟨#[46]⟩ : ByteArray).size = 1 := rfl
                      (try (have c10p := c10; simp only [ByteArray.size_append, List.length_append, c10z0] at c10p))
                      (try (have c10q := eq_false (Nat.not_lt.2 c10p)))
                      have H' := Aside0.mk H
                      clear H
                      have p121 : 0 ≤ (x4_1 : Int) := of_decide_eq_true (by first | (with_reducible assumption) | assumption)
                      have q121 : x4_1 < (l0.length : Int) := of_decide_eq_true (by first | (with_reducible assumption) | assumption)
                      obtain ⟨ad121, e121, hx121_0⟩ := Kd.at_string HR0.out x4_1 p121 q121
                      cases e121
                      replace p121 := eq_true p121
                      replace q121 := eq_true q121
                      have p122 : 0 ≤ (x4_1 : Int) := of_decide_eq_true (by first | (with_reducible assumption) | assumption)
                      have q122 : x4_1 < (l0.length : Int) := of_decide_eq_true (by first | (with_reducible assumption) | assumption)
                      obtain ⟨ad122, e122, hx122_0⟩ := Kd.at_string HR0.out x4_1 p122 q122
                      obtain rfl : ad121 = ad122 := (by injection e122)
                      replace p122 := eq_true p122
                      replace q122 := eq_true q122
                      have p6 : 0 ≤ (0 : Int) := (by omega)
                      have q6 : 0 < (rdOf ByteArray.empty l0 x4_1).size := (by have : (0 : Int) < ((rdOf ByteArray.empty l0 x4_1).size : Int) := of_decide_eq_true (by first | (with_reducible assumption) | assumption); omega)
                      have hx6 : ∀ h : 0 < (rdOf ByteArray.empty l0 x4_1).size, (((rdOf ByteArray.empty l0 x4_1)[0]'h).toNat : Int) = bt (rdOf ByteArray.empty l0 x4_1) 0 := bt_at (rdOf ByteArray.empty l0 x4_1) 0
                      clear p6
                      have qi6 : (0 < ((rdOf ByteArray.empty l0 x4_1).size : Int)) = True := eq_true (of_decide_eq_true (by first | (with_reducible assumption) | assumption))
                      replace q6 := eq_true q6
                      have p123 : 0 ≤ (x4_1 : Int) := of_decide_eq_true (by first | (with_reducible assumption) | assumption)
                      have q123 : x4_1 < (l0.length : Int) := of_decide_eq_true (by first | (with_reducible assumption) | assumption)
                      obtain ⟨ad123, e123, hx123_0⟩ := Kd.at_string HR0.out x4_1 p123 q123
                      obtain rfl : ad121 = ad123 := (by injection e123)
                      replace p123 := eq_true p123
                      replace q123 := eq_true q123
                      go_wp2
                      go_roundg k1
                      case measure => have := HK1.out; omega
                      case rel => exact ⟨(((x3_1 ++ (⟨#[46]⟩ : ByteArray)) ++ (rdOf ByteArray.empty l0 x4_1)) ++ (⟨#[13, 10]⟩ : ByteArray)), (wrap64 (x4_1 + 1)), (by first | rfl | (simp; done) | (simp [*]; done)), (by first | rfl | (simp; done) | (simp [*]; done)), H', ⟨by have := HK1.out; omega⟩, by repeat (first | exact Drawn0.refl _ | apply Drawn0.step)⟩
                    · rw [if_neg c10] at H
                      exact absurd H (by simp)
                  · rw [if_neg c9] at H
                    exact absurd H (by simp)
                · rw [if_neg c8] at H
                  exact absurd H (by simp)
              · rw [if_neg c7] at H
                have c7b0 : ((bt (rdOf ByteArray.empty l0 x4_1) 0) == 46) = false := beq_eq_false_iff_ne.mpr c7
                have c7b1 : ((bt (rdOf ByteArray.empty l0 x4_1) 0) != 46) = true := bne_iff_ne.mpr c7
                by_cases c11 : x3_1.size + (rdOf ByteArray.empty l0 x4_1).size ≤ 9223372036854775807
                · rw [if_pos c11] at H
                  have c11b0 := eq_true c11
                  have c11b1 : decide (x3_1.size + (rdOf ByteArray.empty l0 x4_1).size ≤ 9223372036854775807) = true := decide_eq_true c11
                  try have c11b2 : (9223372036854775807 < x3_1.size + (rdOf ByteArray.empty l0 x4_1).size) = False := eq_false (Nat.not_lt.2 c11)
                  by_cases c12 : (x3_1 ++ (rdOf ByteArray.empty l0 x4_1)).size + 2 ≤ 9223372036854775807
                  · rw [if_pos c12] at H
                    have c12b0 := eq_true c12
                    have c12b1 : decide ((x3_1 ++ (rdOf ByteArray.empty l0 x4_1)).size + 2 ≤ 9223372036854775807) = true := decide_eq_true c12
                    try have c12b2 : (9223372036854775807 < (x3_1 ++ (rdOf ByteArray.empty l0 x4_1)).size + 2) = False := eq_false (Nat.not_lt.2 c12)
                    (try (have c12p := c12; simp only [ByteArray.size_append, List.length_append] at c12p))
                    (try (have c12q := eq_false (Nat.not_lt.2 c12p)))
                    have H' := Aside0.mk H
                    clear H
                    have p121 : 0 ≤ (x4_1 : Int) := of_decide_eq_true (by first | (with_reducible assumption) | assumption)
                    have q121 : x4_1 < (l0.length : Int) := of_decide_eq_true (by first | (with_reducible assumption) | assumption)
                    obtain ⟨ad121, e121, hx121_0⟩ := Kd.at_string HR0.out x4_1 p121 q121
                    cases e121
                    replace p121 := eq_true p121
                    replace q121 := eq_true q121
                    have p122 : 0 ≤ (x4_1 : Int) := of_decide_eq_true (by first | (with_reducible assumption) | assumption)
                    have q122 : x4_1 < (l0.length : Int) := of_decide_eq_true (by first | (with_reducible assumption) | assumption)
                    obtain ⟨ad122, e122, hx122_0⟩ := Kd.at_string HR0.out x4_1 p122 q122
                    obtain rfl : ad121 = ad122 := (by injection e122)
                    replace p122 := eq_true p122
                    replace q122 := eq_true q122
                    have p6 : 0 ≤ (0 : Int) := (by omega)
                    have q6 : 0 < (rdOf ByteArray.empty l0 x4_1).size := (by have : (0 : Int) < ((rdOf ByteArray.empty l0 x4_1).size : Int) := of_decide_eq_true (by first | (with_reducible assumption) | assumption); omega)
                    have hx6 : ∀ h : 0 < (rdOf ByteArray.empty l0 x4_1).size, (((rdOf ByteArray.empty l0 x4_1)[0]'h).toNat : Int) = bt (rdOf ByteArray.empty l0 x4_1) 0 := bt_at (rdOf ByteArray.empty l0 x4_1) 0
                    clear p6
                    have qi6 : (0 < ((rdOf ByteArray.empty l0 x4_1).size : Int)) = True := eq_true (of_decide_eq_true (by first | (with_reducible assumption) | assumption))
                    replace q6 := eq_true q6
                    have p124 : 0 ≤ (x4_1 : Int) := of_decide_eq_true (by first | (with_reducible assumption) | assumption)
                    have q124 : x4_1 < (l0.length : Int) := of_decide_eq_true (by first | (with_reducible assumption) | assumption)
                    obtain ⟨ad124, e124, hx124_0⟩ := Kd.at_string HR0.out x4_1 p124 q124
                    obtain rfl : ad121 = ad124 := (by injection e124)
                    replace p124 := eq_true p124
                    replace q124 := eq_true q124
                    go_wp2
                    go_roundg k1
                    case measure => have := HK1.out; omega
                    case rel => exact ⟨((x3_1 ++ (rdOf ByteArray.empty l0 x4_1)) ++ (⟨#[13, 10]⟩ : ByteArray)), (wrap64 (x4_1 + 1)), (by first | rfl | (simp; done) | (simp [*]; done)), (by first | rfl | (simp; done) | (simp [*]; done)), H', ⟨by have := HK1.out; omega⟩, by repeat (first | exact Drawn0.refl _ | apply Drawn0.step)⟩
                  · rw [if_neg c12] at H
                    exact absurd H (by simp)
                · rw [if_neg c11] at H
                  exact absurd H (by simp)
            · rw [if_neg c5] at H
              exact absurd H (by simp)
          · rw [if_neg c4] at H
            have c4b0 : decide (0 < ((rdOf ByteArray.empty l0 x4_1).size : Int)) = false := decide_eq_false c4
            have c4b1 : decide (0 < (rdOf ByteArray.empty l0 x4_1).size) = false := decide_eq_false (by omega)
            clear c4
            by_cases c13 : x3_1.size + (rdOf ByteArray.empty l0 x4_1).size ≤ 9223372036854775807
            · rw [if_pos c13] at H
              have c13b0 := eq_true c13
              have c13b1 : decide (x3_1.size + (rdOf ByteArray.empty l0 x4_1).size ≤ 9223372036854775807) = true := decide_eq_true c13
              try have c13b2 : (9223372036854775807 < x3_1.size + (rdOf ByteArray.empty l0 x4_1).size) = False := eq_false (Nat.not_lt.2 c13)
              by_cases c14 : (x3_1 ++ (rdOf ByteArray.empty l0 x4_1)).size + 2 ≤ 9223372036854775807
              · rw [if_pos c14] at H
                have c14b0 := eq_true c14
                have c14b1 : decide ((x3_1 ++ (rdOf ByteArray.empty l0 x4_1)).size + 2 ≤ 9223372036854775807) = true := decide_eq_true c14
                try have c14b2 : (9223372036854775807 < (x3_1 ++ (rdOf ByteArray.empty l0 x4_1)).size + 2) = False := eq_false (Nat.not_lt.2 c14)
                (try (have c14p := c14; simp only [ByteArray.size_append, List.length_append] at c14p))
                (try (have c14q := eq_false (Nat.not_lt.2 c14p)))
                have H' := Aside0.mk H
                clear H
                have p121 : 0 ≤ (x4_1 : Int) := of_decide_eq_true (by first | (with_reducible assumption) | assumption)
                have q121 : x4_1 < (l0.length : Int) := of_decide_eq_true (by first | (with_reducible assumption) | assumption)
                obtain ⟨ad121, e121, hx121_0⟩ := Kd.at_string HR0.out x4_1 p121 q121
                cases e121
                replace p121 := eq_true p121
                replace q121 := eq_true q121
                have p125 : 0 ≤ (x4_1 : Int) := of_decide_eq_true (by first | (with_reducible assumption) | assumption)
                have q125 : x4_1 < (l0.length : Int) := of_decide_eq_true (by first | (with_reducible assumption) | assumption)
                obtain ⟨ad125, e125, hx125_0⟩ := Kd.at_string HR0.out x4_1 p125 q125
                obtain rfl : ad121 = ad125 := (by injection e125)
                replace p125 := eq_true p125
                replace q125 := eq_true q125
                go_wp2
                go_roundg k1
                case measure => have := HK1.out; omega
                case rel => exact ⟨((x3_1 ++ (rdOf ByteArray.empty l0 x4_1)) ++ (⟨#[13, 10]⟩ : ByteArray)), (wrap64 (x4_1 + 1)), (by first | rfl | (simp; done) | (simp [*]; done)), (by first | rfl | (simp; done) | (simp [*]; done)), H', ⟨by have := HK1.out; omega⟩, by repeat (first | exact Drawn0.refl _ | apply Drawn0.step)⟩
              · rw [if_neg c14] at H
                exact absurd H (by simp)
            · rw [if_neg c13] at H
              exact absurd H (by simp)
        · rw [if_neg c3] at H
          exact absurd H (by simp)
      · rw [if_neg c2] at H
        have c2b0 : decide (x4_1 < (l0.length : Int)) = false := decide_eq_false c2
        clear c2
        by_cases c15 : x3_1.size + 3 ≤ 9223372036854775807
        · rw [if_pos c15] at H
          have c15b0 := eq_true c15
          have c15b1 : decide (x3_1.size + 3 ≤ 9223372036854775807) = true := decide_eq_true c15
          try have c15b2 : (9223372036854775807 < x3_1.size + 3) = False := eq_false (Nat.not_lt.2 c15)
          obtain rfl := Option.some.inj H
          go_wp2
          go_ret
          exact ⟨by first | rfl | (simp; done) | (simp [*]; done), by repeat (first | exact Drawn0.refl _ | apply Drawn0.step)⟩
        · rw [if_neg c15] at H
          exact absurd H (by simp)

/-! ### estafettelaw05_DotsStuff: function 3 -/
def estafettelaw05_DotsStuff.j0 : Nat → List ByteArray → ByteArray → Int → Bool → Bool → Option (Bool)
  | 0, _, _, _, _, _ => none
  | k + 1, x0, x3, x4, x5, x31 => if x31 = true then (some false) else (if x5 = true then (if x4 = 0 then ((estafetteref01_Stuff.f k x0).bind fun t135 => (some (x3.toList == t135.toList))) else (some false)) else (if x4 = 2 then (some (x3.toList == ([] : List UInt8))) else (some false)))
def estafettelaw05_DotsStuff.f (k : Nat) (l0 : List ByteArray) : Option (Bool) := (estafettelaw05_small.f k l0).bind fun t126 => (if t126 = true then ((Hand.dots_Stuff.f l0).bind fun bt128 => ((estafetteref01_Good.f k l0).bind fun t130 => ((estafettelaw05_answers.f).bind fun t131 => (if t131 = true then ((Hand.dots_Good.f l0).bind fun t132 => (if (t132 != t130) = true then (estafettelaw05_DotsStuff.j0 k l0 bt128.1 bt128.2 t130 true) else ((Hand.dots_Size.f l0).bind fun t133 => ((estafetteref01_Size.f k l0).bind fun t134 => (estafettelaw05_DotsStuff.j0 k l0 bt128.1 bt128.2 t130 (t133 != t134)))))) else (estafettelaw05_DotsStuff.j0 k l0 bt128.1 bt128.2 t130 true))))) else ((estafettelaw05_answers.f).bind fun t127 => (some t127)))
theorem estafettelaw05_DotsStuff.mono_l : ∀ k, (∀ y0 y1 y2 y3 y4, LeO (estafettelaw05_DotsStuff.j0 k y0 y1 y2 y3 y4) (estafettelaw05_DotsStuff.j0 (k + 1) y0 y1 y2 y3 y4))
  | 0 => fun _ _ _ _ _ r h => by simp [estafettelaw05_DotsStuff.j0] at h
  | k + 1 => by
    have ih0 := estafettelaw05_DotsStuff.mono_l k
    · intro y0 y1 y2 y3 y4
      unfold estafettelaw05_DotsStuff.j0
      repeat' first
      | (with_reducible exact ih0 _ _ _ _ _)
      | (with_reducible exact estafettelaw05_small.mono _ _)
      | (with_reducible exact estafetteref01_Good.mono _ _)
      | (with_reducible exact estafetteref01_Size.mono _ _)
      | (with_reducible exact estafetteref01_Stuff.mono _ _)
      | (with_reducible exact LeO.refl _)
      | (with_reducible exact LeO.none _)
      | (with_reducible refine LeO.ite ?_ ?_)
      | (with_reducible refine LeO.bind ?_ (fun _ => ?_))
      | exact ih0 _ _ _ _ _
      | exact estafettelaw05_small.mono _ _
      | exact estafetteref01_Good.mono _ _
      | exact estafetteref01_Size.mono _ _
      | exact estafetteref01_Stuff.mono _ _
      | exact LeO.none _
      | refine LeO.ite ?_ ?_
      | refine LeO.bind ?_ (fun _ => ?_)
theorem estafettelaw05_DotsStuff.mono : ∀ a0 k, LeO (estafettelaw05_DotsStuff.f k a0) (estafettelaw05_DotsStuff.f (k + 1) a0) := by
  intro a0 k
  have ih0 := estafettelaw05_DotsStuff.mono_l k
  unfold estafettelaw05_DotsStuff.f
  repeat' first
      | (with_reducible exact ih0 _ _ _ _ _)
      | (with_reducible exact estafettelaw05_small.mono _ _)
      | (with_reducible exact estafetteref01_Good.mono _ _)
      | (with_reducible exact estafetteref01_Size.mono _ _)
      | (with_reducible exact estafetteref01_Stuff.mono _ _)
      | (with_reducible exact LeO.refl _)
      | (with_reducible exact LeO.none _)
      | (with_reducible refine LeO.ite ?_ ?_)
      | (with_reducible refine LeO.bind ?_ (fun _ => ?_))
      | exact ih0 _ _ _ _ _
      | exact estafettelaw05_small.mono _ _
      | exact estafetteref01_Good.mono _ _
      | exact estafetteref01_Size.mono _ _
      | exact estafetteref01_Stuff.mono _ _
      | exact LeO.none _
      | refine LeO.ite ?_ ?_
      | refine LeO.bind ?_ (fun _ => ?_)
set_option maxHeartbeats 8000000 in
set_option maxRecDepth 100000 in
theorem estafettelaw05_DotsStuff.calls (k : Nat) (A0 : Option Addr) (c0 : Nat) (l0 : List ByteArray) (r : Bool) (w : World) (hr0 : Kd.C Kd.string w A0 l0.length l0) (hc0 : l0.length ≤ c0) (h : estafettelaw05_DotsStuff.f k l0 = some r) :
    Calls Try.prog 3 #[.slice A0 l0.length c0] w fun e w' => e = .returned (.bool r) ∧ Below w.heap.size w w' := by
  have HR0 := Aside0.mk hr0
  have HC0 := Aside0.mk hc0
  clear hr0 hc0
  have HB := Aside0.mk (Below.refl w.heap.size w)
  have H : ((estafettelaw05_small.f k l0).bind fun t126 => (if t126 = true then ((Hand.dots_Stuff.f l0).bind fun bt128 => ((estafetteref01_Good.f k l0).bind fun t130 => ((estafettelaw05_answers.f).bind fun t131 => (if t131 = true then ((Hand.dots_Good.f l0).bind fun t132 => (if (t132 != t130) = true then (estafettelaw05_DotsStuff.j0 k l0 bt128.1 bt128.2 t130 true) else ((Hand.dots_Size.f l0).bind fun t133 => ((estafetteref01_Size.f k l0).bind fun t134 => (estafettelaw05_DotsStuff.j0 k l0 bt128.1 bt128.2 t130 (t133 != t134)))))) else (estafettelaw05_DotsStuff.j0 k l0 bt128.1 bt128.2 t130 true))))) else ((estafettelaw05_answers.f).bind fun t127 => (some t127)))) = some r := h
  clear h
  replace H := Option.bind_eq_some_iff.mp H
  obtain ⟨t126, A20, H⟩ := H
  replace H : (if t126 = true then ((Hand.dots_Stuff.f l0).bind fun bt128 => ((estafetteref01_Good.f k l0).bind fun t130 => ((estafettelaw05_answers.f).bind fun t131 => (if t131 = true then ((Hand.dots_Good.f l0).bind fun t132 => (if (t132 != t130) = true then (estafettelaw05_DotsStuff.j0 k l0 bt128.1 bt128.2 t130 true) else ((Hand.dots_Size.f l0).bind fun t133 => ((estafetteref01_Size.f k l0).bind fun t134 => (estafettelaw05_DotsStuff.j0 k l0 bt128.1 bt128.2 t130 (t133 != t134)))))) else (estafettelaw05_DotsStuff.j0 k l0 bt128.1 bt128.2 t130 true))))) else ((estafettelaw05_answers.f).bind fun t127 => (some t127))) = some r := H
  have A2 := Aside0.mk A20
  clear A20
  by_cases c3 : t126 = true
  · subst c3
    have H1 : ((Hand.dots_Stuff.f l0).bind fun bt128 => ((estafetteref01_Good.f k l0).bind fun t130 => ((estafettelaw05_answers.f).bind fun t131 => (if t131 = true then ((Hand.dots_Good.f l0).bind fun t132 => (if (t132 != t130) = true then (estafettelaw05_DotsStuff.j0 k l0 bt128.1 bt128.2 t130 true) else ((Hand.dots_Size.f l0).bind fun t133 => ((estafetteref01_Size.f k l0).bind fun t134 => (estafettelaw05_DotsStuff.j0 k l0 bt128.1 bt128.2 t130 (t133 != t134)))))) else (estafettelaw05_DotsStuff.j0 k l0 bt128.1 bt128.2 t130 true))))) = some r := by rw [if_pos rfl] at H; exact H
    clear H
    have H := H1
    clear H1
    replace H := Option.bind_eq_some_iff.mp H
    obtain ⟨⟨t128, t129⟩, A40, H⟩ := H
    replace H : ((estafetteref01_Good.f k l0).bind fun t130 => ((estafettelaw05_answers.f).bind fun t131 => (if t131 = true then ((Hand.dots_Good.f l0).bind fun t132 => (if (t132 != t130) = true then (estafettelaw05_DotsStuff.j0 k l0 t128 t129 t130 true) else ((Hand.dots_Size.f l0).bind fun t133 => ((estafetteref01_Size.f k l0).bind fun t134 => (estafettelaw05_DotsStuff.j0 k l0 t128 t129 t130 (t133 != t134)))))) else (estafettelaw05_DotsStuff.j0 k l0 t128 t129 t130 true)))) = some r := H
    have A4 := Aside0.mk A40
    clear A40
    replace H := Option.bind_eq_some_iff.mp H
    obtain ⟨t130, A50, H⟩ := H
    replace H : ((estafettelaw05_answers.f).bind fun t131 => (if t131 = true then ((Hand.dots_Good.f l0).bind fun t132 => (if (t132 != t130) = true then (estafettelaw05_DotsStuff.j0 k l0 t128 t129 t130 true) else ((Hand.dots_Size.f l0).bind fun t133 => ((estafetteref01_Size.f k l0).bind fun t134 => (estafettelaw05_DotsStuff.j0 k l0 t128 t129 t130 (t133 != t134)))))) else (estafettelaw05_DotsStuff.j0 k l0 t128 t129 t130 true))) = some r := H
    have A5 := Aside0.mk A50
    clear A50
    have HC6 := Aside0.mk H
    clear H
    go_enter Try.func3, Try.ntmps3
    go_upto_region 5 with (first | ((with_reducible refine gate_callee (f := 7) rfl ?_); refine goesL_ (some 7) rfl rfl Try.func7 (by kernel_rfl) rfl #[.slice A0 l0.length c0] rfl (by (try simp only [List.map_toArray, List.map_cons, List.map_nil]); first | done | rfl | (simp only [List.length_drop, List.length_take]; rfl)) ?_; (with_reducible refine (estafettelaw05_small.calls k _ _ l0 true _ ?side1 ?side2 A2.out).mono ?_); (case side1 => repeat (first | exact HR0.out | (with_reducible refine Kd.C_alloc ?_ _) | (with_reducible refine Kd.C_drewN ?_ _) | (with_reducible refine Kd.C_drew ?_))); (case side2 => exact HC0.out); rintro e w' ⟨rfl, ⟨nd, rfl⟩⟩; refine ⟨_, rfl, ?_⟩) | ((with_reducible refine gate_callee (f := 9) rfl ?_); refine goesL_ (some 12) rfl rfl Try.func9 (by kernel_rfl) rfl #[.slice A0 l0.length c0] rfl (by (try simp only [List.map_toArray, List.map_cons, List.map_nil]); first | done | rfl | (simp only [List.length_drop, List.length_take]; rfl)) ?_; (with_reducible refine (Hand.dots_Stuff.calls _ _ l0 t128 t129 _ ?side1 ?side2 A4.out).mono ?_); (case side1 => repeat (first | exact HR0.out | (with_reducible refine Kd.C_alloc ?_ _) | (with_reducible refine Kd.C_drewN ?_ _) | (with_reducible refine Kd.C_drew ?_))); (case side2 => exact HC0.out); rintro e w7 ⟨rfl, hb⟩; refine ⟨_, rfl, ?_⟩; have n0_ := Aside0.mk (below_step (by repeat (first | (with_reducible first | exact HB.out | apply below_alloc | apply pw_below_drewN | apply below_drew1) | exact HB.out)) hb); clear HB; have HB := n0_; clear n0_; (try clear hb); (try clear hb2); (try clear hk); (try clear hi)) | ((with_reducible refine gate_callee (f := 10) rfl ?_); refine goesL_ (some 16) rfl rfl Try.func10 (by kernel_rfl) rfl #[.slice A0 l0.length c0] rfl (by (try simp only [List.map_toArray, List.map_cons, List.map_nil]); first | done | rfl | (simp only [List.length_drop, List.length_take]; rfl)) ?_; (with_reducible refine (estafetteref01_Good.calls k _ _ l0 t130 _ ?side1 ?side2 A5.out).mono ?_); (case side1 => repeat (first | exact (Kd.C_below HR0.out HB.out) | (with_reducible refine Kd.C_alloc ?_ _) | (with_reducible refine Kd.C_drewN ?_ _) | (with_reducible refine Kd.C_drew ?_))); (case side2 => exact HC0.out); rintro e w' ⟨rfl, ⟨nd, rfl⟩⟩; refine ⟨_, rfl, ?_⟩))
    (try simp only [Act.put, List.setIfInBounds_toArray, List.set_cons_zero, List.set_cons_succ])
    go_cut [31] (fun v31 wc => ∃ (kq : Nat) (x31_5 : Bool), v31 = .bool x31_5 ∧ Aside0 (estafettelaw05_DotsStuff.j0 kq l0 t128 t129 t130 x31_5 = some r) ∧ Aside0 (kq ≤ k) ∧ Aside0 (Below w.heap.size w wc))
    case first =>
      have H := HC6.out
      clear HC6
      replace H := Option.bind_eq_some_iff.mp H
      obtain ⟨t131, A80, H⟩ := H
      replace H : (if t131 = true then ((Hand.dots_Good.f l0).bind fun t132 => (if (t132 != t130) = true then (estafettelaw05_DotsStuff.j0 k l0 t128 t129 t130 true) else ((Hand.dots_Size.f l0).bind fun t133 => ((estafetteref01_Size.f k l0).bind fun t134 => (estafettelaw05_DotsStuff.j0 k l0 t128 t129 t130 (t133 != t134)))))) else (estafettelaw05_DotsStuff.j0 k l0 t128 t129 t130 true)) = some r := H
      have A8 := Aside0.mk A80
      clear A80
      by_cases c9 : t131 = true
      · subst c9
        have H1 : ((Hand.dots_Good.f l0).bind fun t132 => (if (t132 != t130) = true then (estafettelaw05_DotsStuff.j0 k l0 t128 t129 t130 true) else ((Hand.dots_Size.f l0).bind fun t133 => ((estafetteref01_Size.f k l0).bind fun t134 => (estafettelaw05_DotsStuff.j0 k l0 t128 t129 t130 (t133 != t134)))))) = some r := by rw [if_pos rfl] at H; exact H
        clear H
        have H := H1
        clear H1
        replace H := Option.bind_eq_some_iff.mp H
        obtain ⟨t132, A100, H⟩ := H
        replace H : (if (t132 != t130) = true then (estafettelaw05_DotsStuff.j0 k l0 t128 t129 t130 true) else ((Hand.dots_Size.f l0).bind fun t133 => ((estafetteref01_Size.f k l0).bind fun t134 => (estafettelaw05_DotsStuff.j0 k l0 t128 t129 t130 (t133 != t134))))) = some r := H
        have A10 := Aside0.mk A100
        clear A100
        by_cases c11 : (t132 != t130) = true
        · rw [if_pos c11] at H
          have c11b0 : (t132 != t130) = true := c11
          (try (have c11b1 : decide (t132 = t130) = false := by simpa using c11))
          (try (have c11b2 : (t132 == t130) = false := by simpa using c11))
          (try (have c11b3 : ¬ (t132 = t130) := by simpa using c11))
          clear c11
          (first | rw [c11b0] | (simp only [i64_w, i32_w]; rw [c11b0]) | skip)
          have H' := Aside0.mk H
          clear H
          go_wp2_with (first | ((with_reducible refine gate_callee (f := 8) rfl ?_); refine goesL_ (some 17) rfl rfl Try.func8 (by kernel_rfl) rfl #[] rfl (by (try simp only [List.map_toArray, List.map_cons, List.map_nil]); first | done | rfl | (simp only [List.length_drop, List.length_take]; rfl)) ?_; (with_reducible refine (estafettelaw05_answers.calls  true _ A8.out).mono ?_); rintro e w12 ⟨rfl, hb⟩; refine ⟨_, rfl, ?_⟩; have n0_ := Aside0.mk (below_step (by repeat (first | (with_reducible first | exact HB.out | apply below_alloc | apply pw_below_drewN | apply below_drew1) | exact HB.out)) hb); clear HB; have HB := n0_; clear n0_; (try clear hb); (try clear hb2); (try clear hk); (try clear hi)) | (go_at_call 11; (with_reducible refine (Hand.dots_Good.calls _ _ l0 t132 _ ?side1 ?side2 A10.out).mono ?_); (case side1 => repeat (first | exact (Kd.C_below HR0.out HB.out) | (with_reducible refine Kd.C_alloc ?_ _) | (with_reducible refine Kd.C_drewN ?_ _) | (with_reducible refine Kd.C_drew ?_))); (case side2 => exact HC0.out); rintro e w' ⟨rfl, ⟨nd, rfl⟩⟩))
          go_meet
          case rel => exact ⟨_, (true), (by first | rfl | (simp; done) | (simp [*]; done)), H', ⟨by first | omega | exact Nat.le_refl _⟩, ⟨by repeat (first | (with_reducible first | exact HB.out | apply below_alloc | apply pw_below_drewN | apply below_drew1) | exact HB.out)⟩⟩
        · rw [if_neg c11] at H
          have c11b0 : (t132 != t130) = false := by simpa using c11
          (try (have c11b1 : decide (t132 = t130) = true := by simpa using c11))
          (try (have c11b2 : (t132 == t130) = true := by simpa using c11))
          clear c11
          (first | rw [c11b0] | (simp only [i64_w, i32_w]; rw [c11b0]) | skip)
          replace H := Option.bind_eq_some_iff.mp H
          obtain ⟨t133, A130, H⟩ := H
          replace H : ((estafetteref01_Size.f k l0).bind fun t134 => (estafettelaw05_DotsStuff.j0 k l0 t128 t129 t130 (t133 != t134))) = some r := H
          have A13 := Aside0.mk A130
          clear A130
          replace H := Option.bind_eq_some_iff.mp H
          obtain ⟨t134, A140, H⟩ := H
          replace H : (estafettelaw05_DotsStuff.j0 k l0 t128 t129 t130 (t133 != t134)) = some r := H
          have A14 := Aside0.mk A140
          clear A140
          have H' := Aside0.mk H
          clear H
          go_wp2_with (first | ((with_reducible refine gate_callee (f := 8) rfl ?_); refine goesL_ (some 17) rfl rfl Try.func8 (by kernel_rfl) rfl #[] rfl (by (try simp only [List.map_toArray, List.map_cons, List.map_nil]); first | done | rfl | (simp only [List.length_drop, List.length_take]; rfl)) ?_; (with_reducible refine (estafettelaw05_answers.calls  true _ A8.out).mono ?_); rintro e w15 ⟨rfl, hb⟩; refine ⟨_, rfl, ?_⟩; have n0_ := Aside0.mk (below_step (by repeat (first | (with_reducible first | exact HB.out | apply below_alloc | apply pw_below_drewN | apply below_drew1) | exact HB.out)) hb); clear HB; have HB := n0_; clear n0_; (try clear hb); (try clear hb2); (try clear hk); (try clear hi)) | (go_at_call 11; (with_reducible refine (Hand.dots_Good.calls _ _ l0 t132 _ ?side1 ?side2 A10.out).mono ?_); (case side1 => repeat (first | exact (Kd.C_below HR0.out HB.out) | (with_reducible refine Kd.C_alloc ?_ _) | (with_reducible refine Kd.C_drewN ?_ _) | (with_reducible refine Kd.C_drew ?_))); (case side2 => exact HC0.out); rintro e w' ⟨rfl, ⟨nd, rfl⟩⟩) | (go_at_call 12; (with_reducible refine (Hand.dots_Size.calls _ _ l0 t133 _ ?side1 ?side2 A13.out).mono ?_); (case side1 => repeat (first | exact (Kd.C_below HR0.out (by repeat (first | (with_reducible first | exact HB.out | apply below_alloc | apply pw_below_drewN | apply below_drew1) | exact HB.out))) | (with_reducible refine Kd.C_alloc ?_ _) | (with_reducible refine Kd.C_drewN ?_ _) | (with_reducible refine Kd.C_drew ?_))); (case side2 => exact HC0.out); rintro e w' ⟨rfl, ⟨nd, rfl⟩⟩) | (go_at_call 13; (with_reducible refine (estafetteref01_Size.calls k _ _ l0 t134 _ ?side1 ?side2 A14.out).mono ?_); (case side1 => repeat (first | exact (Kd.C_below HR0.out (by repeat (first | (with_reducible first | exact HB.out | apply below_alloc | apply pw_below_drewN | apply below_drew1) | exact HB.out))) | (with_reducible refine Kd.C_alloc ?_ _) | (with_reducible refine Kd.C_drewN ?_ _) | (with_reducible refine Kd.C_drew ?_))); (case side2 => exact HC0.out); rintro e w' ⟨rfl, ⟨nd, rfl⟩⟩))
          go_meet
          case rel => exact ⟨_, ((t133 != t134)), (by first | rfl | (simp; done) | (simp [*]; done)), H', ⟨by first | omega | exact Nat.le_refl _⟩, ⟨by repeat (first | (with_reducible first | exact HB.out | apply below_alloc | apply pw_below_drewN | apply below_drew1) | exact HB.out)⟩⟩
      · replace c9 := Bool.eq_false_iff.mpr c9
        subst c9
        have H1 : (estafettelaw05_DotsStuff.j0 k l0 t128 t129 t130 true) = some r := by rw [if_neg (show ¬ (false = true) by decide)] at H; exact H
        clear H
        have H := H1
        clear H1
        have H' := Aside0.mk H
        clear H
        go_wp2_with (first | ((with_reducible refine gate_callee (f := 8) rfl ?_); refine goesL_ (some 17) rfl rfl Try.func8 (by kernel_rfl) rfl #[] rfl (by (try simp only [List.map_toArray, List.map_cons, List.map_nil]); first | done | rfl | (simp only [List.length_drop, List.length_take]; rfl)) ?_; (with_reducible refine (estafettelaw05_answers.calls  false _ A8.out).mono ?_); rintro e w16 ⟨rfl, hb⟩; refine ⟨_, rfl, ?_⟩; have n0_ := Aside0.mk (below_step (by repeat (first | (with_reducible first | exact HB.out | apply below_alloc | apply pw_below_drewN | apply below_drew1) | exact HB.out)) hb); clear HB; have HB := n0_; clear n0_; (try clear hb); (try clear hb2); (try clear hk); (try clear hi)))
        go_meet
        case rel => exact ⟨_, (true), (by first | rfl | (simp; done) | (simp [*]; done)), H', ⟨by first | omega | exact Nat.le_refl _⟩, ⟨by repeat (first | (with_reducible first | exact HB.out | apply below_alloc | apply pw_below_drewN | apply below_drew1) | exact HB.out)⟩⟩
    case rest =>
      clear HC6
      try clear c1
      try clear p2
      try clear c3
      try clear c7
      try clear c8
      try clear c9
      try clear c10
      try clear c11
      try clear c11b0
      try clear c11b1
      try clear c11b2
      obtain ⟨kq, x31_5, rfl, HA, HJ5, HB⟩ := hcut
      cases kq with
      | zero => exact absurd HA.out (by simp [estafettelaw05_DotsStuff.j0])
      | succ kj5 =>
        have H := HA.out
        clear HA
        simp only [estafettelaw05_DotsStuff.j0] at H
        by_cases c17 : x31_5 = true
        · subst c17
          have H1 : (some false) = some r := by rw [if_pos rfl] at H; exact H
          clear H
          have H := H1
          clear H1
          obtain rfl := Option.some.inj H
          go_wp2
          go_ret
          exact ⟨by first | rfl | (simp [errW_none, errW_some] <;> rfl) | (simp [*, errW_none, errW_some] <;> rfl), by repeat (first | (with_reducible first | exact HB.out | apply below_alloc | apply pw_below_drewN | apply below_drew1) | exact HB.out)⟩
        · replace c17 := Bool.eq_false_iff.mpr c17
          subst c17
          have H1 : (if t130 = true then (if t129 = 0 then ((estafetteref01_Stuff.f kj5 l0).bind fun t135 => (some (t128.toList == t135.toList))) else (some false)) else (if t129 = 2 then (some (t128.toList == ([] : List UInt8))) else (some false))) = some r := by rw [if_neg (show ¬ (false = true) by decide)] at H; exact H
          clear H
          have H := H1
          clear H1
          by_cases c18 : t130 = true
          · subst c18
            have H1 : (if t129 = 0 then ((estafetteref01_Stuff.f kj5 l0).bind fun t135 => (some (t128.toList == t135.toList))) else (some false)) = some r := by rw [if_pos rfl] at H; exact H
            clear H
            have H := H1
            clear H1
            by_cases c19 : t129 = 0
            · rw [if_pos c19] at H
              have c19b0 : (t129 == 0) = true := beq_iff_eq.mpr c19
              have c19b1 : (t129 != 0) = false := bne_eq_false_iff_eq.mpr c19
              clear c19
              replace H := Option.bind_eq_some_iff.mp H
              obtain ⟨t135, A200, H⟩ := H
              replace H : (some (t128.toList == t135.toList)) = some r := H
              have A20 := Aside0.mk A200
              clear A200
              obtain rfl := Option.some.inj H
              go_wp2_with (first | (go_at_call 14; (with_reducible refine (estafetteref01_Stuff.calls kj5 _ _ l0 t135 _ ?side1 ?side2 A20.out).mono ?_); (case side1 => repeat (first | exact (Kd.C_below HR0.out HB.out) | (with_reducible refine Kd.C_alloc ?_ _) | (with_reducible refine Kd.C_drewN ?_ _) | (with_reducible refine Kd.C_drew ?_))); (case side2 => exact HC0.out); rintro e w' ⟨rfl, ⟨nd, rfl⟩⟩))
              go_ret
              exact ⟨by first | rfl | (simp [errW_none, errW_some] <;> rfl) | (simp [*, errW_none, errW_some] <;> rfl), by repeat (first | (with_reducible first | exact HB.out | apply below_alloc | apply pw_below_drewN | apply below_drew1) | exact HB.out)⟩
            · rw [if_neg c19] at H
              have c19b0 : (t129 == 0) = false := beq_eq_false_iff_ne.mpr c19
              have c19b1 : (t129 != 0) = true := bne_iff_ne.mpr c19
              obtain rfl := Option.some.inj H
              go_wp2
              go_ret
              exact ⟨by first | rfl | (simp [errW_none, errW_some] <;> rfl) | (simp [*, errW_none, errW_some] <;> rfl), by repeat (first | (with_reducible first | exact HB.out | apply below_alloc | apply pw_below_drewN | apply below_drew1) | exact HB.out)⟩
          · replace c18 := Bool.eq_false_iff.mpr c18
            subst c18
            have H1 : (if t129 = 2 then (some (t128.toList == ([] : List UInt8))) else (some false)) = some r := by rw [if_neg (show ¬ (false = true) by decide)] at H; exact H
            clear H
            have H := H1
            clear H1
            by_cases c21 : t129 = 2
            · rw [if_pos c21] at H
              have c21b0 : (t129 == 2) = true := beq_iff_eq.mpr c21
              have c21b1 : (t129 != 2) = false := bne_eq_false_iff_eq.mpr c21
              clear c21
              obtain rfl := Option.some.inj H
              go_wp2
              go_ret
              exact ⟨by first | rfl | (simp [errW_none, errW_some] <;> rfl) | (simp [*, errW_none, errW_some] <;> rfl), by repeat (first | (with_reducible first | exact HB.out | apply below_alloc | apply pw_below_drewN | apply below_drew1) | exact HB.out)⟩
            · rw [if_neg c21] at H
              have c21b0 : (t129 == 2) = false := beq_eq_false_iff_ne.mpr c21
              have c21b1 : (t129 != 2) = true := bne_iff_ne.mpr c21
              obtain rfl := Option.some.inj H
              go_wp2
              go_ret
              exact ⟨by first | rfl | (simp [errW_none, errW_some] <;> rfl) | (simp [*, errW_none, errW_some] <;> rfl), by repeat (first | (with_reducible first | exact HB.out | apply below_alloc | apply pw_below_drewN | apply below_drew1) | exact HB.out)⟩
  · replace c3 := Bool.eq_false_iff.mpr c3
    subst c3
    have H1 : ((estafettelaw05_answers.f).bind fun t127 => (some t127)) = some r := by rw [if_neg (show ¬ (false = true) by decide)] at H; exact H
    clear H
    have H := H1
    clear H1
    replace H := Option.bind_eq_some_iff.mp H
    obtain ⟨t127, A220, H⟩ := H
    replace H : (some t127) = some r := H
    have A22 := Aside0.mk A220
    clear A220
    obtain rfl := Option.some.inj H
    go_enter Try.func3, Try.ntmps3
    go_wp2_with (first | ((with_reducible refine gate_callee (f := 7) rfl ?_); refine goesL_ (some 7) rfl rfl Try.func7 (by kernel_rfl) rfl #[.slice A0 l0.length c0] rfl (by (try simp only [List.map_toArray, List.map_cons, List.map_nil]); first | done | rfl | (simp only [List.length_drop, List.length_take]; rfl)) ?_; (with_reducible refine (estafettelaw05_small.calls k _ _ l0 false _ ?side1 ?side2 A2.out).mono ?_); (case side1 => repeat (first | exact HR0.out | (with_reducible refine Kd.C_alloc ?_ _) | (with_reducible refine Kd.C_drewN ?_ _) | (with_reducible refine Kd.C_drew ?_))); (case side2 => exact HC0.out); rintro e w' ⟨rfl, ⟨nd, rfl⟩⟩; refine ⟨_, rfl, ?_⟩) | ((with_reducible refine gate_callee (f := 8) rfl ?_); refine goesL_ (some 9) rfl rfl Try.func8 (by kernel_rfl) rfl #[] rfl (by (try simp only [List.map_toArray, List.map_cons, List.map_nil]); first | done | rfl | (simp only [List.length_drop, List.length_take]; rfl)) ?_; (with_reducible refine (estafettelaw05_answers.calls  t127 _ A22.out).mono ?_); rintro e w23 ⟨rfl, hb⟩; refine ⟨_, rfl, ?_⟩; have n0_ := Aside0.mk (below_step (by repeat (first | (with_reducible first | exact HB.out | apply below_alloc | apply pw_below_drewN | apply below_drew1) | exact HB.out)) hb); clear HB; have HB := n0_; clear n0_; (try clear hb); (try clear hb2); (try clear hk); (try clear hi)))
    go_ret
    exact ⟨by first | rfl | (simp [errW_none, errW_some] <;> rfl) | (simp [*, errW_none, errW_some] <;> rfl), by repeat (first | (with_reducible first | exact HB.out | apply below_alloc | apply pw_below_drewN | apply below_drew1) | exact HB.out)⟩
/-- THE ONE PURE STATEMENT of estafettelaw05_DotsStuff: yours. -/
def estafettelaw05_DotsStuff.Pure : Prop := ∀ (x0 : List ByteArray), (x0.length * 16 ≤ 140737488351232 ∧ ∀ e0 ∈ x0, e0.size ≤ 140737488351232) → ∃ k, estafettelaw05_DotsStuff.f k x0 = some true

/-! ### estafetteref01_Unstuff: function 17 -/
def estafetteref01_Unstuff.f (a0 : ByteArray) : Option (ByteArray × Bool) := if a0.toList = ([46] : List UInt8) then (some ((⟨#[]⟩ : ByteArray), true)) else (if (a0.size : Int) > 0 then (if 0 < (a0.size : Int) then (if (bt a0 0) = 46 then (if 1 ≤ (a0.size : Int) then (some (a0.extract 1 a0.size, false)) else (none)) else (some (a0, false))) else (none)) else (some (a0, false)))
set_option maxHeartbeats 8000000 in
set_option maxRecDepth 100000 in
theorem estafetteref01_Unstuff.calls (a0 : ByteArray) (r1 : ByteArray) (r2 : Bool) (w : World) (h : estafetteref01_Unstuff.f a0 = some (r1, r2)) :
    Calls Try.prog 17 #[.string a0] w fun e w' => e = .returned (.tuple #[.string r1, .bool r2]) ∧ Drawn0 w w' := by
  have H : (if a0.toList = ([46] : List UInt8) then (some ((⟨#[]⟩ : ByteArray), true)) else (if (a0.size : Int) > 0 then (if 0 < (a0.size : Int) then (if (bt a0 0) = 46 then (if 1 ≤ (a0.size : Int) then (some (a0.extract 1 a0.size, false)) else (none)) else (some (a0, false))) else (none)) else (some (a0, false)))) = some (r1, r2) := h
  clear h
  by_cases c2 : a0.toList = ([46] : List UInt8)
  · rw [if_pos c2] at H
    have c2b0 : (a0.toList == ([46] : List UInt8)) = true := beq_iff_eq.mpr c2
    have c2b1 : (a0.toList != ([46] : List UInt8)) = false := bne_eq_false_iff_eq.mpr c2
    clear c2
    simp only [Option.some.injEq, Prod.mk.injEq] at H
    obtain ⟨rfl, rfl⟩ := H
    go_enter Try.func17, Try.ntmps17
    go_wp2
    go_ret2
    exact ⟨by first | rfl | (simp; done) | (simp [*]; done), by repeat (first | exact Drawn0.refl _ | apply Drawn0.step)⟩
  · rw [if_neg c2] at H
    have c2b0 : (a0.toList == ([46] : List UInt8)) = false := beq_eq_false_iff_ne.mpr c2
    have c2b1 : (a0.toList != ([46] : List UInt8)) = true := bne_iff_ne.mpr c2
    by_cases c3 : (a0.size : Int) > 0
    · rw [if_pos c3] at H
      have c3b0 : decide (0 < (a0.size : Int)) = true := decide_eq_true c3
      have c3b1 : decide (0 < a0.size) = true := decide_eq_true (by omega)
      clear c3
      by_cases c4 : 0 < (a0.size : Int)
      · rw [if_pos c4] at H
        have c4b0 : decide (0 < (a0.size : Int)) = true := decide_eq_true c4
        have c4b1 : decide (0 < a0.size) = true := decide_eq_true (by omega)
        clear c4
        by_cases c6 : (bt a0 0) = 46
        · rw [if_pos c6] at H
          have c6b0 : ((bt a0 0) == 46) = true := beq_iff_eq.mpr c6
          have c6b1 : ((bt a0 0) != 46) = false := bne_eq_false_iff_eq.mpr c6
          clear c6
          by_cases c7 : 1 ≤ (a0.size : Int)
          · rw [if_pos c7] at H
            have c7b0 := eq_true c7
            have c7b1 : decide (1 ≤ (a0.size : Int)) = true := decide_eq_true c7
            clear c7
            simp only [Option.some.injEq, Prod.mk.injEq] at H
            obtain ⟨rfl, rfl⟩ := H
            have p5 : 0 ≤ (0 : Int) := (by omega)
            have q5 : 0 < a0.size := (by have : (0 : Int) < (a0.size : Int) := of_decide_eq_true (by first | (with_reducible assumption) | assumption); omega)
            have hx5 : ∀ h : 0 < a0.size, ((a0[0]'h).toNat : Int) = bt a0 0 := bt_at a0 0
            clear p5
            have qi5 : (0 < (a0.size : Int)) = True := eq_true (of_decide_eq_true (by first | (with_reducible assumption) | assumption))
            replace q5 := eq_true q5
            go_enter Try.func17, Try.ntmps17
            go_wp2
            go_ret2
            exact ⟨by first | rfl | (simp; done) | (simp [*]; done), by repeat (first | exact Drawn0.refl _ | apply Drawn0.step)⟩
          · rw [if_neg c7] at H
            exact absurd H (by simp)
        · rw [if_neg c6] at H
          have c6b0 : ((bt a0 0) == 46) = false := beq_eq_false_iff_ne.mpr c6
          have c6b1 : ((bt a0 0) != 46) = true := bne_iff_ne.mpr c6
          simp only [Option.some.injEq, Prod.mk.injEq] at H
          obtain ⟨rfl, rfl⟩ := H
          have p5 : 0 ≤ (0 : Int) := (by omega)
          have q5 : 0 < a0.size := (by have : (0 : Int) < (a0.size : Int) := of_decide_eq_true (by first | (with_reducible assumption) | assumption); omega)
          have hx5 : ∀ h : 0 < a0.size, ((a0[0]'h).toNat : Int) = bt a0 0 := bt_at a0 0
          clear p5
          have qi5 : (0 < (a0.size : Int)) = True := eq_true (of_decide_eq_true (by first | (with_reducible assumption) | assumption))
          replace q5 := eq_true q5
          go_enter Try.func17, Try.ntmps17
          go_wp2
          go_ret2
          exact ⟨by first | rfl | (simp; done) | (simp [*]; done), by repeat (first | exact Drawn0.refl _ | apply Drawn0.step)⟩
      · rw [if_neg c4] at H
        exact absurd H (by simp)
    · rw [if_neg c3] at H
      have c3b0 : decide (0 < (a0.size : Int)) = false := decide_eq_false c3
      have c3b1 : decide (0 < a0.size) = false := decide_eq_false (by omega)
      clear c3
      simp only [Option.some.injEq, Prod.mk.injEq] at H
      obtain ⟨rfl, rfl⟩ := H
      go_enter Try.func17, Try.ntmps17
      go_wp2
      go_ret2
      exact ⟨by first | rfl | (simp; done) | (simp [*]; done), by repeat (first | exact Drawn0.refl _ | apply Drawn0.step)⟩

/-! ### estafettelaw05_DotsLines: function 5 -/
def estafettelaw05_DotsLines.f (a0 : ByteArray) : Option (Bool) := (dots_Unstuff.f a0).bind fun bt136 => ((estafetteref01_Unstuff.f a0).bind fun bt138 => ((estafettelaw05_answers.f).bind fun t140 => (if t140 = true then (if bt136.1.toList = bt138.1.toList then (some (bt136.2 == bt138.2)) else (some false)) else (some false))))
set_option maxHeartbeats 8000000 in
set_option maxRecDepth 100000 in
theorem estafettelaw05_DotsLines.calls (a0 : ByteArray) (r : Bool) (w : World) (h : estafettelaw05_DotsLines.f a0 = some r) :
    Calls Try.prog 5 #[.string a0] w fun e w' => e = .returned (.bool r) ∧ Below w.heap.size w w' := by
  have HB := Aside0.mk (Below.refl w.heap.size w)
  have H : ((dots_Unstuff.f a0).bind fun bt136 => ((estafetteref01_Unstuff.f a0).bind fun bt138 => ((estafettelaw05_answers.f).bind fun t140 => (if t140 = true then (if bt136.1.toList = bt138.1.toList then (some (bt136.2 == bt138.2)) else (some false)) else (some false))))) = some r := h
  clear h
  replace H := Option.bind_eq_some_iff.mp H
  obtain ⟨⟨t136, t137⟩, A20, H⟩ := H
  replace H : ((estafetteref01_Unstuff.f a0).bind fun bt138 => ((estafettelaw05_answers.f).bind fun t140 => (if t140 = true then (if t136.toList = bt138.1.toList then (some (t137 == bt138.2)) else (some false)) else (some false)))) = some r := H
  have A2 := Aside0.mk A20
  clear A20
  replace H := Option.bind_eq_some_iff.mp H
  obtain ⟨⟨t138, t139⟩, A30, H⟩ := H
  replace H : ((estafettelaw05_answers.f).bind fun t140 => (if t140 = true then (if t136.toList = t138.toList then (some (t137 == t139)) else (some false)) else (some false))) = some r := H
  have A3 := Aside0.mk A30
  clear A30
  replace H := Option.bind_eq_some_iff.mp H
  obtain ⟨t140, A40, H⟩ := H
  replace H : (if t140 = true then (if t136.toList = t138.toList then (some (t137 == t139)) else (some false)) else (some false)) = some r := H
  have A4 := Aside0.mk A40
  clear A40
  by_cases c5 : t140 = true
  · subst c5
    have H1 : (if t136.toList = t138.toList then (some (t137 == t139)) else (some false)) = some r := by rw [if_pos rfl] at H; exact H
    clear H
    have H := H1
    clear H1
    by_cases c6 : t136.toList = t138.toList
    · rw [if_pos c6] at H
      have c6b0 : (t136.toList == t138.toList) = true := beq_iff_eq.mpr c6
      have c6b1 : (t136.toList != t138.toList) = false := bne_eq_false_iff_eq.mpr c6
      clear c6
      obtain rfl := Option.some.inj H
      go_enter Try.func5, Try.ntmps5
      go_wp2_with (first | ((with_reducible refine gate_callee (f := 16) rfl ?_); refine goesL_ (some 9) rfl rfl Try.func16 (by kernel_rfl) rfl #[.string a0] rfl (by (try simp only [List.map_toArray, List.map_cons, List.map_nil]); first | done | rfl | (simp only [List.length_drop, List.length_take]; rfl)) ?_; (with_reducible refine (dots_Unstuff.calls a0 t136 t137 _ A2.out).mono ?_); rintro e w' ⟨rfl, ⟨nd, rfl⟩⟩; refine ⟨_, rfl, ?_⟩) | ((with_reducible refine gate_callee (f := 17) rfl ?_); refine goesL_ (some 14) rfl rfl Try.func17 (by kernel_rfl) rfl #[.string a0] rfl (by (try simp only [List.map_toArray, List.map_cons, List.map_nil]); first | done | rfl | (simp only [List.length_drop, List.length_take]; rfl)) ?_; (with_reducible refine (estafetteref01_Unstuff.calls a0 t138 t139 _ A3.out).mono ?_); rintro e w' ⟨rfl, ⟨nd, rfl⟩⟩; refine ⟨_, rfl, ?_⟩) | ((with_reducible refine gate_callee (f := 8) rfl ?_); refine goesL_ (some 17) rfl rfl Try.func8 (by kernel_rfl) rfl #[] rfl (by (try simp only [List.map_toArray, List.map_cons, List.map_nil]); first | done | rfl | (simp only [List.length_drop, List.length_take]; rfl)) ?_; (with_reducible refine (estafettelaw05_answers.calls  true _ A4.out).mono ?_); rintro e w7 ⟨rfl, hb⟩; refine ⟨_, rfl, ?_⟩; have n0_ := Aside0.mk (below_step (by repeat (first | (with_reducible first | exact HB.out | apply below_alloc | apply pw_below_drewN | apply below_drew1) | exact HB.out)) hb); clear HB; have HB := n0_; clear n0_; (try clear hb); (try clear hb2); (try clear hk); (try clear hi)))
      go_ret
      exact ⟨by first | rfl | (simp [errW_none, errW_some] <;> rfl) | (simp [*, errW_none, errW_some] <;> rfl), by repeat (first | (with_reducible first | exact HB.out | apply below_alloc | apply pw_below_drewN | apply below_drew1) | exact HB.out)⟩
    · rw [if_neg c6] at H
      have c6b0 : (t136.toList == t138.toList) = false := beq_eq_false_iff_ne.mpr c6
      have c6b1 : (t136.toList != t138.toList) = true := bne_iff_ne.mpr c6
      obtain rfl := Option.some.inj H
      go_enter Try.func5, Try.ntmps5
      go_wp2_with (first | ((with_reducible refine gate_callee (f := 16) rfl ?_); refine goesL_ (some 9) rfl rfl Try.func16 (by kernel_rfl) rfl #[.string a0] rfl (by (try simp only [List.map_toArray, List.map_cons, List.map_nil]); first | done | rfl | (simp only [List.length_drop, List.length_take]; rfl)) ?_; (with_reducible refine (dots_Unstuff.calls a0 t136 t137 _ A2.out).mono ?_); rintro e w' ⟨rfl, ⟨nd, rfl⟩⟩; refine ⟨_, rfl, ?_⟩) | ((with_reducible refine gate_callee (f := 17) rfl ?_); refine goesL_ (some 14) rfl rfl Try.func17 (by kernel_rfl) rfl #[.string a0] rfl (by (try simp only [List.map_toArray, List.map_cons, List.map_nil]); first | done | rfl | (simp only [List.length_drop, List.length_take]; rfl)) ?_; (with_reducible refine (estafetteref01_Unstuff.calls a0 t138 t139 _ A3.out).mono ?_); rintro e w' ⟨rfl, ⟨nd, rfl⟩⟩; refine ⟨_, rfl, ?_⟩) | ((with_reducible refine gate_callee (f := 8) rfl ?_); refine goesL_ (some 17) rfl rfl Try.func8 (by kernel_rfl) rfl #[] rfl (by (try simp only [List.map_toArray, List.map_cons, List.map_nil]); first | done | rfl | (simp only [List.length_drop, List.length_take]; rfl)) ?_; (with_reducible refine (estafettelaw05_answers.calls  true _ A4.out).mono ?_); rintro e w8 ⟨rfl, hb⟩; refine ⟨_, rfl, ?_⟩; have n0_ := Aside0.mk (below_step (by repeat (first | (with_reducible first | exact HB.out | apply below_alloc | apply pw_below_drewN | apply below_drew1) | exact HB.out)) hb); clear HB; have HB := n0_; clear n0_; (try clear hb); (try clear hb2); (try clear hk); (try clear hi)))
      go_ret
      exact ⟨by first | rfl | (simp [errW_none, errW_some] <;> rfl) | (simp [*, errW_none, errW_some] <;> rfl), by repeat (first | (with_reducible first | exact HB.out | apply below_alloc | apply pw_below_drewN | apply below_drew1) | exact HB.out)⟩
  · replace c5 := Bool.eq_false_iff.mpr c5
    subst c5
    have H1 : (some false) = some r := by rw [if_neg (show ¬ (false = true) by decide)] at H; exact H
    clear H
    have H := H1
    clear H1
    obtain rfl := Option.some.inj H
    go_enter Try.func5, Try.ntmps5
    go_wp2_with (first | ((with_reducible refine gate_callee (f := 16) rfl ?_); refine goesL_ (some 9) rfl rfl Try.func16 (by kernel_rfl) rfl #[.string a0] rfl (by (try simp only [List.map_toArray, List.map_cons, List.map_nil]); first | done | rfl | (simp only [List.length_drop, List.length_take]; rfl)) ?_; (with_reducible refine (dots_Unstuff.calls a0 t136 t137 _ A2.out).mono ?_); rintro e w' ⟨rfl, ⟨nd, rfl⟩⟩; refine ⟨_, rfl, ?_⟩) | ((with_reducible refine gate_callee (f := 17) rfl ?_); refine goesL_ (some 14) rfl rfl Try.func17 (by kernel_rfl) rfl #[.string a0] rfl (by (try simp only [List.map_toArray, List.map_cons, List.map_nil]); first | done | rfl | (simp only [List.length_drop, List.length_take]; rfl)) ?_; (with_reducible refine (estafetteref01_Unstuff.calls a0 t138 t139 _ A3.out).mono ?_); rintro e w' ⟨rfl, ⟨nd, rfl⟩⟩; refine ⟨_, rfl, ?_⟩) | ((with_reducible refine gate_callee (f := 8) rfl ?_); refine goesL_ (some 17) rfl rfl Try.func8 (by kernel_rfl) rfl #[] rfl (by (try simp only [List.map_toArray, List.map_cons, List.map_nil]); first | done | rfl | (simp only [List.length_drop, List.length_take]; rfl)) ?_; (with_reducible refine (estafettelaw05_answers.calls  false _ A4.out).mono ?_); rintro e w9 ⟨rfl, hb⟩; refine ⟨_, rfl, ?_⟩; have n0_ := Aside0.mk (below_step (by repeat (first | (with_reducible first | exact HB.out | apply below_alloc | apply pw_below_drewN | apply below_drew1) | exact HB.out)) hb); clear HB; have HB := n0_; clear n0_; (try clear hb); (try clear hb2); (try clear hk); (try clear hi)))
    go_ret
    exact ⟨by first | rfl | (simp [errW_none, errW_some] <;> rfl) | (simp [*, errW_none, errW_some] <;> rfl), by repeat (first | (with_reducible first | exact HB.out | apply below_alloc | apply pw_below_drewN | apply below_drew1) | exact HB.out)⟩

/-- THE ONE PURE STATEMENT of estafettelaw05_DotsLines: yours. -/
def estafettelaw05_DotsLines.Pure : Prop := ∀ (a0 : ByteArray), a0.size ≤ 140737488351232 → estafettelaw05_DotsLines.f a0 = some true
theorem estafettelaw05_DotsLines.walk (P : estafettelaw05_DotsLines.Pure) (a0 : ByteArray) (w : World) (w0 : a0.size ≤ 140737488351232) :
    Calls Try.prog 5 #[.string a0] w fun e w' => e = .returned (.bool true) ∧ Below w.heap.size w w' := by
  have h := P a0 w0
  refine (estafettelaw05_DotsLines.calls a0 true w h).mono ?_
  rintro e w' ⟨rfl, hd⟩
  exact ⟨rfl, hd⟩

end Go.Proofs.Ytpplahmnlgokbaa.PB
