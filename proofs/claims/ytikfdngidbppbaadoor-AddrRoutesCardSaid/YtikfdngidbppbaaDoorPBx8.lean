/- For every input: what the functions below return, or the statement that this text proves. Written by a program of this claim.s author (a turned print). -/
import Derived.Test.YtikfdngidbppbaaDoorPBx0
import Derived.Test.YtikfdngidbppbaaDoorPBx1
namespace Go.Proofs.YtikfdngidbppbaaDoor.PB
open Go.RowKit Go.Proofs.YtikfdngidbppbaaDoorW.PrintWords Go.Proofs.YtikfdngidbppbaaDoorW.PrintLast Go.Proofs.YtikfdngidbppbaaDoorW.PrintMore
attribute [local go_sem] max2_int min2_int max_two min_two max_three min_three max_four min_four   -- for this text's walks alone
set_option linter.unusedVariables false
set_option linter.unusedSimpArgs false

/-! ### estafettelaw01_AddrLengths: function 7 -/
mutual
def estafettelaw01_AddrLengths.l0 : Nat → Int → Int → ByteArray → ByteArray → Int → Option (Bool)
  | 0, _, _, _, _, _ => none
  | k + 1, x0, x1, x5, x6, x7 => if x7 < (wrap64 ((wrap64 (Int.tmod x0 70)) + 1)) then (if x5.size + 1 ≤ 9223372036854775807 then (estafettelaw01_AddrLengths.l0 k x0 x1 (x5 ++ (⟨#[97]⟩ : ByteArray)) x6 (wrap64 (x7 + 1))) else (none)) else (estafettelaw01_AddrLengths.l1 k x1 x5 x6 0)
def estafettelaw01_AddrLengths.l1 : Nat → Int → ByteArray → ByteArray → Int → Option (Bool)
  | 0, _, _, _, _ => none
  | k + 1, x1, x5, x6, x8 => if x8 < (wrap64 ((wrap64 (Int.tmod x1 6)) + 1)) then (if x6.size + 1 ≤ 9223372036854775807 then (if (x6 ++ (⟨#[46]⟩ : ByteArray)).size + 49 ≤ 9223372036854775807 then (estafettelaw01_AddrLengths.l1 k x1 x5 ((x6 ++ (⟨#[46]⟩ : ByteArray)) ++ (⟨#[120, 49, 50, 51, 52, 53, 54, 55, 56, 57, 48, 49, 50, 51, 52, 53, 54, 55, 56, 57, 48, 49, 50, 51, 52, 53, 54, 55, 56, 57, 48, 49, 50, 51, 52, 53, 54, 55, 56, 57, 48, 49, 50, 51, 52, 53, 54, 55, 56]⟩ : ByteArray)) (wrap64 (x8 + 1))) else (none)) else (none)) else ((estafettelaw01_answers.f k).bind fun t212 => (if t212 = true then ((Hand.addr_Local.f x5).bind fun t213 => (if (t213 == (decide ((x5.size : Int) ≤ 64))) = true then ((Hand.addr_Domain.f x5).bind fun t214 => (if (t214 == (decide ((x5.size : Int) ≤ 63))) = true then (if 1 ≤ (x6.size : Int) then ((Hand.addr_Domain.f (x6.extract 1 x6.size)).bind fun t215 => (if (t215 == (decide ((wrap64 ((x6.size : Int) - 1)) ≤ 255))) = true then ((Hand.addr_Domain.f x6).bind fun t216 => (if t216 = true then (some false) else (if x5.size + 1 ≤ 9223372036854775807 then ((Hand.addr_Local.f (x5 ++ (⟨#[46]⟩ : ByteArray))).bind fun t217 => (if t217 = true then (some false) else (if 1 + x5.size ≤ 9223372036854775807 then ((Hand.addr_Local.f ((⟨#[46]⟩ : ByteArray) ++ x5)).bind fun t218 => (some (!t218))) else (none)))) else (none)))) else (some false))) else (none)) else (some false))) else (some false))) else (some false)))
end
def estafettelaw01_AddrLengths.f (k : Nat) (a0 : Int) (a1 : Int) : Option (Bool) := estafettelaw01_AddrLengths.l0 k a0 a1 (⟨#[]⟩ : ByteArray) (⟨#[]⟩ : ByteArray) 0
theorem estafettelaw01_AddrLengths.mono_l : ∀ k, (∀ y0 y1 y2 y3 y4, LeO (estafettelaw01_AddrLengths.l0 k y0 y1 y2 y3 y4) (estafettelaw01_AddrLengths.l0 (k + 1) y0 y1 y2 y3 y4)) ∧ (∀ y0 y1 y2 y3, LeO (estafettelaw01_AddrLengths.l1 k y0 y1 y2 y3) (estafettelaw01_AddrLengths.l1 (k + 1) y0 y1 y2 y3))
  | 0 => ⟨fun _ _ _ _ _ r h => by simp [estafettelaw01_AddrLengths.l0] at h, fun _ _ _ _ r h => by simp [estafettelaw01_AddrLengths.l1] at h⟩
  | k + 1 => by
    obtain ⟨ih0, ih1⟩ := estafettelaw01_AddrLengths.mono_l k
    refine ⟨?_, ?_⟩
    · intro y0 y1 y2 y3 y4
      unfold estafettelaw01_AddrLengths.l0
      repeat' first
      | (with_reducible exact ih0 _ _ _ _ _)
      | (with_reducible exact ih1 _ _ _ _)
      | (with_reducible exact estafettelaw01_answers.mono _)
      | (with_reducible exact LeO.refl _)
      | (with_reducible exact LeO.none _)
      | (with_reducible refine LeO.ite ?_ ?_)
      | (with_reducible refine LeO.bind ?_ (fun _ => ?_))
      | exact ih0 _ _ _ _ _
      | exact ih1 _ _ _ _
      | exact estafettelaw01_answers.mono _
      | exact LeO.none _
      | refine LeO.ite ?_ ?_
      | refine LeO.bind ?_ (fun _ => ?_)
    · intro y0 y1 y2 y3
      unfold estafettelaw01_AddrLengths.l1
      repeat' first
      | (with_reducible exact ih0 _ _ _ _ _)
      | (with_reducible exact ih1 _ _ _ _)
      | (with_reducible exact estafettelaw01_answers.mono _)
      | (with_reducible exact LeO.refl _)
      | (with_reducible exact LeO.none _)
      | (with_reducible refine LeO.ite ?_ ?_)
      | (with_reducible refine LeO.bind ?_ (fun _ => ?_))
      | exact ih0 _ _ _ _ _
      | exact ih1 _ _ _ _
      | exact estafettelaw01_answers.mono _
      | exact LeO.none _
      | refine LeO.ite ?_ ?_
      | refine LeO.bind ?_ (fun _ => ?_)
theorem estafettelaw01_AddrLengths.mono : ∀ a0 a1 k, LeO (estafettelaw01_AddrLengths.f k a0 a1) (estafettelaw01_AddrLengths.f (k + 1) a0 a1) := by
  intro a0 a1 k
  obtain ⟨ih0, ih1⟩ := estafettelaw01_AddrLengths.mono_l k
  unfold estafettelaw01_AddrLengths.f
  repeat' first
      | (with_reducible exact ih0 _ _ _ _ _)
      | (with_reducible exact ih1 _ _ _ _)
      | (with_reducible exact estafettelaw01_answers.mono _)
      | (with_reducible exact LeO.refl _)
      | (with_reducible exact LeO.none _)
      | (with_reducible refine LeO.ite ?_ ?_)
      | (with_reducible refine LeO.bind ?_ (fun _ => ?_))
      | exact ih0 _ _ _ _ _
      | exact ih1 _ _ _ _
      | exact estafettelaw01_answers.mono _
      | exact LeO.none _
      | refine LeO.ite ?_ ?_
      | refine LeO.bind ?_ (fun _ => ?_)
set_option maxHeartbeats 8000000 in
set_option maxRecDepth 100000 in
theorem estafettelaw01_AddrLengths.calls (k : Nat) (a0 : Int) (a1 : Int) (r : Bool) (w : World) (h : estafettelaw01_AddrLengths.f k a0 a1 = some r) :
    Calls Tryd.prog 7 #[.int .u8 a0, .int .u8 a1] w fun e w' => e = .returned (.bool r) ∧ Below w.heap.size w w' := by
  have HB := Aside0.mk (Below.refl w.heap.size w)
  have H : (estafettelaw01_AddrLengths.l0 k a0 a1 (⟨#[]⟩ : ByteArray) (⟨#[]⟩ : ByteArray) 0) = some r := h
  clear h
  have H' := Aside0.mk H
  clear H
  go_enter Tryd.func7, Tryd.ntmps7
  go_wp2
  go_loopg [5, 7] k (fun kq v5 v7 w' => ∃ (x5_1 : ByteArray) (x7_1 : Int), v5 = .string x5_1 ∧ v7 = .int .i64 x7_1 ∧ Aside0 (estafettelaw01_AddrLengths.l0 kq a0 a1 x5_1 (⟨#[]⟩ : ByteArray) x7_1 = some r) ∧ Aside0 (kq ≤ k) ∧ Aside0 (Below w.heap.size w w'))
  case atStart => exact ⟨((⟨#[]⟩ : ByteArray)), (0), (by first | rfl | (simp; done) | (simp [*]; done)), (by first | rfl | (simp; done) | (simp [*]; done)), H', ⟨Nat.le_refl _⟩, ⟨by repeat (first | (with_reducible first | exact HB.out | apply below_alloc | apply pw_below_drewN | apply below_drew1) | exact HB.out)⟩⟩
  case round =>
    clear H'
    try clear p2
    obtain ⟨x5_1, x7_1, rfl, rfl, HA, HK1, HB⟩ := hrel
    cases gk with
    | zero => exact absurd HA.out (by simp [estafettelaw01_AddrLengths.l0])
    | succ k1 =>
      have H := HA.out
      clear HA
      simp only [estafettelaw01_AddrLengths.l0] at H
      by_cases c3 : x7_1 < (wrap64 ((wrap64 (Int.tmod a0 70)) + 1))
      · rw [if_pos c3] at H
        have c3b0 : decide (x7_1 < (wrap64 ((wrap64 (Int.tmod a0 70)) + 1))) = true := decide_eq_true c3
        clear c3
        by_cases c4 : x5_1.size + 1 ≤ 9223372036854775807
        · rw [if_pos c4] at H
          have c4b0 := eq_true c4
          have c4b1 : decide (x5_1.size + 1 ≤ 9223372036854775807) = true := decide_eq_true c4
          try have c4b2 : (9223372036854775807 < x5_1.size + 1) = False := eq_false (Nat.not_lt.2 c4)
          have H' := Aside0.mk H
          clear H
          go_wp2
          go_roundg k1
          case measure => have := HK1.out; omega
          case rel => exact ⟨(x5_1 ++ (⟨#[97]⟩ : ByteArray)), (wrap64 (x7_1 + 1)), (by first | rfl | (simp; done) | (simp [*]; done)), (by first | rfl | (simp; done) | (simp [*]; done)), H', ⟨by have := HK1.out; omega⟩, ⟨by repeat (first | (with_reducible first | exact HB.out | apply below_alloc | apply pw_below_drewN | apply below_drew1) | exact HB.out)⟩⟩
        · rw [if_neg c4] at H
          exact absurd H (by simp)
      · rw [if_neg c3] at H
        have c3b0 : decide (x7_1 < (wrap64 ((wrap64 (Int.tmod a0 70)) + 1))) = false := decide_eq_false c3
        clear c3
        have H' := Aside0.mk H
        clear H
        go_wp2
        go_loopg [6, 8] k1 (fun kq v6 v8 w' => ∃ (x6_2 : ByteArray) (x8_2 : Int), v6 = .string x6_2 ∧ v8 = .int .i64 x8_2 ∧ Aside0 (estafettelaw01_AddrLengths.l1 kq a1 x5_1 x6_2 x8_2 = some r) ∧ Aside0 (kq ≤ k1) ∧ Aside0 (Below w.heap.size w w'))
        case atStart => exact ⟨((⟨#[]⟩ : ByteArray)), (0), (by first | rfl | (simp; done) | (simp [*]; done)), (by first | rfl | (simp; done) | (simp [*]; done)), H', ⟨Nat.le_refl _⟩, ⟨by repeat (first | (with_reducible first | exact HB.out | apply below_alloc | apply pw_below_drewN | apply below_drew1) | exact HB.out)⟩⟩
        case round =>
          clear H'
          try clear p2
          try clear c3
          try clear c3b0
          try clear c4
          try clear c4b0
          try clear c4b1
          try clear c4b2
          try clear p2
          obtain ⟨x6_2, x8_2, rfl, rfl, HA, HK2, HB⟩ := hrel
          cases gk with
          | zero => exact absurd HA.out (by simp [estafettelaw01_AddrLengths.l1])
          | succ k2 =>
            have H := HA.out
            clear HA
            simp only [estafettelaw01_AddrLengths.l1] at H
            by_cases c5 : x8_2 < (wrap64 ((wrap64 (Int.tmod a1 6)) + 1))
            · rw [if_pos c5] at H
              have c5b0 : decide (x8_2 < (wrap64 ((wrap64 (Int.tmod a1 6)) + 1))) = true := decide_eq_true c5
              clear c5
              by_cases c6 : x6_2.size + 1 ≤ 9223372036854775807
              · rw [if_pos c6] at H
                have c6b0 := eq_true c6
                have c6b1 : decide (x6_2.size + 1 ≤ 9223372036854775807) = true := decide_eq_true c6
                try have c6b2 : (9223372036854775807 < x6_2.size + 1) = False := eq_false (Nat.not_lt.2 c6)
                by_cases c7 : (x6_2 ++ (⟨#[46]⟩ : ByteArray)).size + 49 ≤ 9223372036854775807
                · rw [if_pos c7] at H
                  have c7b0 := eq_true c7
                  have c7b1 : decide ((x6_2 ++ (⟨#[46]⟩ : ByteArray)).size + 49 ≤ 9223372036854775807) = true := decide_eq_true c7
                  try have c7b2 : (9223372036854775807 < (x6_2 ++ (⟨#[46]⟩ : ByteArray)).size + 49) = False := eq_false (Nat.not_lt.2 c7)
                  have c7z0 : (⟨#[46]⟩ : ByteArray).size = 1 := rfl
                  (try (have c7p := c7; simp only [ByteArray.size_append, List.length_append, c7z0] at c7p))
                  have H' := Aside0.mk H
                  clear H
                  go_wp2
                  go_roundg k2
                  case measure => have := HK1.out; have := HK2.out; omega
                  case rel => exact ⟨((x6_2 ++ (⟨#[46]⟩ : ByteArray)) ++ (⟨#[120, 49, 50, 51, 52, 53, 54, 55, 56, 57, 48, 49, 50, 51, 52, 53, 54, 55, 56, 57, 48, 49, 50, 51, 52, 53, 54, 55, 56, 57, 48, 49, 50, 51, 52, 53, 54, 55, 56, 57, 48, 49, 50, 51, 52, 53, 54, 55, 56]⟩ : ByteArray)), (wrap64 (x8_2 + 1)), (by first | rfl | (simp; done) | (simp [*]; done)), (by first | rfl | (simp; done) | (simp [*]; done)), H', ⟨by have := HK1.out; have := HK2.out; omega⟩, ⟨by repeat (first | (with_reducible first | exact HB.out | apply below_alloc | apply pw_below_drewN | apply below_drew1) | exact HB.out)⟩⟩
                · rw [if_neg c7] at H
                  exact absurd H (by simp)
              · rw [if_neg c6] at H
                exact absurd H (by simp)
            · rw [if_neg c5] at H
              have c5b0 : decide (x8_2 < (wrap64 ((wrap64 (Int.tmod a1 6)) + 1))) = false := decide_eq_false c5
              clear c5
              replace H := Option.bind_eq_some_iff.mp H
              obtain ⟨t212, A80, H⟩ := H
              replace H : (if t212 = true then ((Hand.addr_Local.f x5_1).bind fun t213 => (if (t213 == (decide ((x5_1.size : Int) ≤ 64))) = true then ((Hand.addr_Domain.f x5_1).bind fun t214 => (if (t214 == (decide ((x5_1.size : Int) ≤ 63))) = true then (if 1 ≤ (x6_2.size : Int) then ((Hand.addr_Domain.f (x6_2.extract 1 x6_2.size)).bind fun t215 => (if (t215 == (decide ((wrap64 ((x6_2.size : Int) - 1)) ≤ 255))) = true then ((Hand.addr_Domain.f x6_2).bind fun t216 => (if t216 = true then (some false) else (if x5_1.size + 1 ≤ 9223372036854775807 then ((Hand.addr_Local.f (x5_1 ++ (⟨#[46]⟩ : ByteArray))).bind fun t217 => (if t217 = true then (some false) else (if 1 + x5_1.size ≤ 9223372036854775807 then ((Hand.addr_Local.f ((⟨#[46]⟩ : ByteArray) ++ x5_1)).bind fun t218 => (some (!t218))) else (none)))) else (none)))) else (some false))) else (none)) else (some false))) else (some false))) else (some false)) = some r := H
              have A8 := Aside0.mk A80
              clear A80
              by_cases c9 : t212 = true
              · subst c9
                have H1 : ((Hand.addr_Local.f x5_1).bind fun t213 => (if (t213 == (decide ((x5_1.size : Int) ≤ 64))) = true then ((Hand.addr_Domain.f x5_1).bind fun t214 => (if (t214 == (decide ((x5_1.size : Int) ≤ 63))) = true then (if 1 ≤ (x6_2.size : Int) then ((Hand.addr_Domain.f (x6_2.extract 1 x6_2.size)).bind fun t215 => (if (t215 == (decide ((wrap64 ((x6_2.size : Int) - 1)) ≤ 255))) = true then ((Hand.addr_Domain.f x6_2).bind fun t216 => (if t216 = true then (some false) else (if x5_1.size + 1 ≤ 9223372036854775807 then ((Hand.addr_Local.f (x5_1 ++ (⟨#[46]⟩ : ByteArray))).bind fun t217 => (if t217 = true then (some false) else (if 1 + x5_1.size ≤ 9223372036854775807 then ((Hand.addr_Local.f ((⟨#[46]⟩ : ByteArray) ++ x5_1)).bind fun t218 => (some (!t218))) else (none)))) else (none)))) else (some false))) else (none)) else (some false))) else (some false))) = some r := by rw [if_pos rfl] at H; exact H
                clear H
                have H := H1
                clear H1
                replace H := Option.bind_eq_some_iff.mp H
                obtain ⟨t213, A100, H⟩ := H
                replace H : (if (t213 == (decide ((x5_1.size : Int) ≤ 64))) = true then ((Hand.addr_Domain.f x5_1).bind fun t214 => (if (t214 == (decide ((x5_1.size : Int) ≤ 63))) = true then (if 1 ≤ (x6_2.size : Int) then ((Hand.addr_Domain.f (x6_2.extract 1 x6_2.size)).bind fun t215 => (if (t215 == (decide ((wrap64 ((x6_2.size : Int) - 1)) ≤ 255))) = true then ((Hand.addr_Domain.f x6_2).bind fun t216 => (if t216 = true then (some false) else (if x5_1.size + 1 ≤ 9223372036854775807 then ((Hand.addr_Local.f (x5_1 ++ (⟨#[46]⟩ : ByteArray))).bind fun t217 => (if t217 = true then (some false) else (if 1 + x5_1.size ≤ 9223372036854775807 then ((Hand.addr_Local.f ((⟨#[46]⟩ : ByteArray) ++ x5_1)).bind fun t218 => (some (!t218))) else (none)))) else (none)))) else (some false))) else (none)) else (some false))) else (some false)) = some r := H
                have A10 := Aside0.mk A100
                clear A100
                by_cases c11 : (t213 == (decide ((x5_1.size : Int) ≤ 64))) = true
                · rw [if_pos c11] at H
                  have c11b0 : (t213 == (decide ((x5_1.size : Int) ≤ 64))) = true := c11
                  (try (have c11b1 : decide (t213 = (decide ((x5_1.size : Int) ≤ 64))) = true := by simpa using c11))
                  (try (have c11b2 : (t213 == (decide ((x5_1.size : Int) ≤ 64))) = true := by simpa using c11))
                  clear c11
                  replace H := Option.bind_eq_some_iff.mp H
                  obtain ⟨t214, A120, H⟩ := H
                  replace H : (if (t214 == (decide ((x5_1.size : Int) ≤ 63))) = true then (if 1 ≤ (x6_2.size : Int) then ((Hand.addr_Domain.f (x6_2.extract 1 x6_2.size)).bind fun t215 => (if (t215 == (decide ((wrap64 ((x6_2.size : Int) - 1)) ≤ 255))) = true then ((Hand.addr_Domain.f x6_2).bind fun t216 => (if t216 = true then (some false) else (if x5_1.size + 1 ≤ 9223372036854775807 then ((Hand.addr_Local.f (x5_1 ++ (⟨#[46]⟩ : ByteArray))).bind fun t217 => (if t217 = true then (some false) else (if 1 + x5_1.size ≤ 9223372036854775807 then ((Hand.addr_Local.f ((⟨#[46]⟩ : ByteArray) ++ x5_1)).bind fun t218 => (some (!t218))) else (none)))) else (none)))) else (some false))) else (none)) else (some false)) = some r := H
                  have A12 := Aside0.mk A120
                  clear A120
                  by_cases c13 : (t214 == (decide ((x5_1.size : Int) ≤ 63))) = true
                  · rw [if_pos c13] at H
                    have c13b0 : (t214 == (decide ((x5_1.size : Int) ≤ 63))) = true := c13
                    (try (have c13b1 : decide (t214 = (decide ((x5_1.size : Int) ≤ 63))) = true := by simpa using c13))
                    (try (have c13b2 : (t214 == (decide ((x5_1.size : Int) ≤ 63))) = true := by simpa using c13))
                    clear c13
                    by_cases c14 : 1 ≤ (x6_2.size : Int)
                    · rw [if_pos c14] at H
                      have c14b0 := eq_true c14
                      have c14b1 : decide (1 ≤ (x6_2.size : Int)) = true := decide_eq_true c14
                      clear c14
                      replace H := Option.bind_eq_some_iff.mp H
                      obtain ⟨t215, A150, H⟩ := H
                      replace H : (if (t215 == (decide ((wrap64 ((x6_2.size : Int) - 1)) ≤ 255))) = true then ((Hand.addr_Domain.f x6_2).bind fun t216 => (if t216 = true then (some false) else (if x5_1.size + 1 ≤ 9223372036854775807 then ((Hand.addr_Local.f (x5_1 ++ (⟨#[46]⟩ : ByteArray))).bind fun t217 => (if t217 = true then (some false) else (if 1 + x5_1.size ≤ 9223372036854775807 then ((Hand.addr_Local.f ((⟨#[46]⟩ : ByteArray) ++ x5_1)).bind fun t218 => (some (!t218))) else (none)))) else (none)))) else (some false)) = some r := H
                      have A15 := Aside0.mk A150
                      clear A150
                      by_cases c16 : (t215 == (decide ((wrap64 ((x6_2.size : Int) - 1)) ≤ 255))) = true
                      · rw [if_pos c16] at H
                        have c16b0 : (t215 == (decide ((wrap64 ((x6_2.size : Int) - 1)) ≤ 255))) = true := c16
                        (try (have c16b1 : decide (t215 = (decide ((wrap64 ((x6_2.size : Int) - 1)) ≤ 255))) = true := by simpa using c16))
                        (try (have c16b2 : (t215 == (decide ((wrap64 ((x6_2.size : Int) - 1)) ≤ 255))) = true := by simpa using c16))
                        clear c16
                        replace H := Option.bind_eq_some_iff.mp H
                        obtain ⟨t216, A170, H⟩ := H
                        replace H : (if t216 = true then (some false) else (if x5_1.size + 1 ≤ 9223372036854775807 then ((Hand.addr_Local.f (x5_1 ++ (⟨#[46]⟩ : ByteArray))).bind fun t217 => (if t217 = true then (some false) else (if 1 + x5_1.size ≤ 9223372036854775807 then ((Hand.addr_Local.f ((⟨#[46]⟩ : ByteArray) ++ x5_1)).bind fun t218 => (some (!t218))) else (none)))) else (none))) = some r := H
                        have A17 := Aside0.mk A170
                        clear A170
                        by_cases c18 : t216 = true
                        · subst c18
                          have H1 : (some false) = some r := by rw [if_pos rfl] at H; exact H
                          clear H
                          have H := H1
                          clear H1
                          obtain rfl := Option.some.inj H
                          go_wp2_with (first | ((with_reducible refine gate_callee (f := 8) rfl ?_); refine goesL_ (some 34) rfl rfl Tryd.func8 (by kernel_rfl) rfl #[] rfl (by (try simp only [List.map_toArray, List.map_cons, List.map_nil]); first | done | rfl | (simp only [List.length_drop, List.length_take]; rfl)) ?_; (with_reducible refine (estafettelaw01_answers.calls k2  true _ A8.out).mono ?_); rintro e w19 ⟨rfl, hb⟩; refine ⟨_, rfl, ?_⟩; have n0_ := Aside0.mk (below_step (by repeat (first | (with_reducible first | exact HB.out | apply below_alloc | apply pw_below_drewN | apply below_drew1) | exact HB.out)) hb); clear HB; have HB := n0_; clear n0_; (try clear hb); (try clear hb2); (try clear hk); (try clear hi)) | (go_at_call 13; (with_reducible refine (Hand.addr_Local.calls x5_1 t213 _ A10.out).mono ?_); rintro e w20 ⟨rfl, hb⟩; have n0_ := Aside0.mk (below_step (by repeat (first | (with_reducible first | exact HB.out | apply below_alloc | apply pw_below_drewN | apply below_drew1) | exact HB.out)) hb); clear HB; have HB := n0_; clear n0_; (try clear hb); (try clear hb2); (try clear hk); (try clear hi)) | (go_at_call 15; (with_reducible refine (Hand.addr_Domain.calls x5_1 t214 _ A12.out).mono ?_); rintro e w21 ⟨rfl, hb⟩; have n0_ := Aside0.mk (below_step (by repeat (first | (with_reducible first | exact HB.out | apply below_alloc | apply pw_below_drewN | apply below_drew1) | exact HB.out)) hb); clear HB; have HB := n0_; clear n0_; (try clear hb); (try clear hb2); (try clear hk); (try clear hi)) | (go_at_call 15; (with_reducible refine (Hand.addr_Domain.calls (x6_2.extract 1 x6_2.size) t215 _ A15.out).mono ?_); rintro e w22 ⟨rfl, hb⟩; have n0_ := Aside0.mk (below_step (by repeat (first | (with_reducible first | exact HB.out | apply below_alloc | apply pw_below_drewN | apply below_drew1) | exact HB.out)) hb); clear HB; have HB := n0_; clear n0_; (try clear hb); (try clear hb2); (try clear hk); (try clear hi)) | (go_at_call 15; (with_reducible refine (Hand.addr_Domain.calls x6_2 true _ A17.out).mono ?_); rintro e w23 ⟨rfl, hb⟩; have n0_ := Aside0.mk (below_step (by repeat (first | (with_reducible first | exact HB.out | apply below_alloc | apply pw_below_drewN | apply below_drew1) | exact HB.out)) hb); clear HB; have HB := n0_; clear n0_; (try clear hb); (try clear hb2); (try clear hk); (try clear hi)))
                          go_ret
                          exact ⟨by first | rfl | (simp [errW_none, errW_some] <;> rfl) | (simp [*, errW_none, errW_some] <;> rfl), by repeat (first | (with_reducible first | exact HB.out | apply below_alloc | apply pw_below_drewN | apply below_drew1) | exact HB.out)⟩
                        · replace c18 := Bool.eq_false_iff.mpr c18
                          subst c18
                          have H1 : (if x5_1.size + 1 ≤ 9223372036854775807 then ((Hand.addr_Local.f (x5_1 ++ (⟨#[46]⟩ : ByteArray))).bind fun t217 => (if t217 = true then (some false) else (if 1 + x5_1.size ≤ 9223372036854775807 then ((Hand.addr_Local.f ((⟨#[46]⟩ : ByteArray) ++ x5_1)).bind fun t218 => (some (!t218))) else (none)))) else (none)) = some r := by rw [if_neg (show ¬ (false = true) by decide)] at H; exact H
                          clear H
                          have H := H1
                          clear H1
                          by_cases c24 : x5_1.size + 1 ≤ 9223372036854775807
                          · rw [if_pos c24] at H
                            have c24b0 := eq_true c24
                            have c24b1 : decide (x5_1.size + 1 ≤ 9223372036854775807) = true := decide_eq_true c24
                            try have c24b2 : (9223372036854775807 < x5_1.size + 1) = False := eq_false (Nat.not_lt.2 c24)
                            replace H := Option.bind_eq_some_iff.mp H
                            obtain ⟨t217, A250, H⟩ := H
                            replace H : (if t217 = true then (some false) else (if 1 + x5_1.size ≤ 9223372036854775807 then ((Hand.addr_Local.f ((⟨#[46]⟩ : ByteArray) ++ x5_1)).bind fun t218 => (some (!t218))) else (none))) = some r := H
                            have A25 := Aside0.mk A250
                            clear A250
                            by_cases c26 : t217 = true
                            · subst c26
                              have H1 : (some false) = some r := by rw [if_pos rfl] at H; exact H
                              clear H
                              have H := H1
                              clear H1
                              obtain rfl := Option.some.inj H
                              go_wp2_with (first | ((with_reducible refine gate_callee (f := 8) rfl ?_); refine goesL_ (some 34) rfl rfl Tryd.func8 (by kernel_rfl) rfl #[] rfl (by (try simp only [List.map_toArray, List.map_cons, List.map_nil]); first | done | rfl | (simp only [List.length_drop, List.length_take]; rfl)) ?_; (with_reducible refine (estafettelaw01_answers.calls k2  true _ A8.out).mono ?_); rintro e w27 ⟨rfl, hb⟩; refine ⟨_, rfl, ?_⟩; have n0_ := Aside0.mk (below_step (by repeat (first | (with_reducible first | exact HB.out | apply below_alloc | apply pw_below_drewN | apply below_drew1) | exact HB.out)) hb); clear HB; have HB := n0_; clear n0_; (try clear hb); (try clear hb2); (try clear hk); (try clear hi)) | (go_at_call 13; (with_reducible refine (Hand.addr_Local.calls x5_1 t213 _ A10.out).mono ?_); rintro e w28 ⟨rfl, hb⟩; have n0_ := Aside0.mk (below_step (by repeat (first | (with_reducible first | exact HB.out | apply below_alloc | apply pw_below_drewN | apply below_drew1) | exact HB.out)) hb); clear HB; have HB := n0_; clear n0_; (try clear hb); (try clear hb2); (try clear hk); (try clear hi)) | (go_at_call 15; (with_reducible refine (Hand.addr_Domain.calls x5_1 t214 _ A12.out).mono ?_); rintro e w29 ⟨rfl, hb⟩; have n0_ := Aside0.mk (below_step (by repeat (first | (with_reducible first | exact HB.out | apply below_alloc | apply pw_below_drewN | apply below_drew1) | exact HB.out)) hb); clear HB; have HB := n0_; clear n0_; (try clear hb); (try clear hb2); (try clear hk); (try clear hi)) | (go_at_call 15; (with_reducible refine (Hand.addr_Domain.calls (x6_2.extract 1 x6_2.size) t215 _ A15.out).mono ?_); rintro e w30 ⟨rfl, hb⟩; have n0_ := Aside0.mk (below_step (by repeat (first | (with_reducible first | exact HB.out | apply below_alloc | apply pw_below_drewN | apply below_drew1) | exact HB.out)) hb); clear HB; have HB := n0_; clear n0_; (try clear hb); (try clear hb2); (try clear hk); (try clear hi)) | (go_at_call 15; (with_reducible refine (Hand.addr_Domain.calls x6_2 false _ A17.out).mono ?_); rintro e w31 ⟨rfl, hb⟩; have n0_ := Aside0.mk (below_step (by repeat (first | (with_reducible first | exact HB.out | apply below_alloc | apply pw_below_drewN | apply below_drew1) | exact HB.out)) hb); clear HB; have HB := n0_; clear n0_; (try clear hb); (try clear hb2); (try clear hk); (try clear hi)) | (go_at_call 13; (with_reducible refine (Hand.addr_Local.calls (x5_1 ++ (⟨#[46]⟩ : ByteArray)) true _ A25.out).mono ?_); rintro e w32 ⟨rfl, hb⟩; have n0_ := Aside0.mk (below_step (by repeat (first | (with_reducible first | exact HB.out | apply below_alloc | apply pw_below_drewN | apply below_drew1) | exact HB.out)) hb); clear HB; have HB := n0_; clear n0_; (try clear hb); (try clear hb2); (try clear hk); (try clear hi)))
                              go_ret
                              exact ⟨by first | rfl | (simp [errW_none, errW_some] <;> rfl) | (simp [*, errW_none, errW_some] <;> rfl), by repeat (first | (with_reducible first | exact HB.out | apply below_alloc | apply pw_below_drewN | apply below_drew1) | exact HB.out)⟩
                            · replace c26 := Bool.eq_false_iff.mpr c26
                              subst c26
                              have H1 : (if 1 + x5_1.size ≤ 9223372036854775807 then ((Hand.addr_Local.f ((⟨#[46]⟩ : ByteArray) ++ x5_1)).bind fun t218 => (some (!t218))) else (none)) = some r := by rw [if_neg (show ¬ (false = true) by decide)] at H; exact H
                              clear H
                              have H := H1
                              clear H1
                              by_cases c33 : 1 + x5_1.size ≤ 9223372036854775807
                              · rw [if_pos c33] at H
                                have c33b0 := eq_true c33
                                have c33b1 : decide (1 + x5_1.size ≤ 9223372036854775807) = true := decide_eq_true c33
                                try have c33b2 : (9223372036854775807 < 1 + x5_1.size) = False := eq_false (Nat.not_lt.2 c33)
                                replace H := Option.bind_eq_some_iff.mp H
                                obtain ⟨t218, A340, H⟩ := H
                                replace H : (some (!t218)) = some r := H
                                have A34 := Aside0.mk A340
                                clear A340
                                obtain rfl := Option.some.inj H
                                go_wp2_with (first | ((with_reducible refine gate_callee (f := 8) rfl ?_); refine goesL_ (some 34) rfl rfl Tryd.func8 (by kernel_rfl) rfl #[] rfl (by (try simp only [List.map_toArray, List.map_cons, List.map_nil]); first | done | rfl | (simp only [List.length_drop, List.length_take]; rfl)) ?_; (with_reducible refine (estafettelaw01_answers.calls k2  true _ A8.out).mono ?_); rintro e w35 ⟨rfl, hb⟩; refine ⟨_, rfl, ?_⟩; have n0_ := Aside0.mk (below_step (by repeat (first | (with_reducible first | exact HB.out | apply below_alloc | apply pw_below_drewN | apply below_drew1) | exact HB.out)) hb); clear HB; have HB := n0_; clear n0_; (try clear hb); (try clear hb2); (try clear hk); (try clear hi)) | (go_at_call 13; (with_reducible refine (Hand.addr_Local.calls x5_1 t213 _ A10.out).mono ?_); rintro e w36 ⟨rfl, hb⟩; have n0_ := Aside0.mk (below_step (by repeat (first | (with_reducible first | exact HB.out | apply below_alloc | apply pw_below_drewN | apply below_drew1) | exact HB.out)) hb); clear HB; have HB := n0_; clear n0_; (try clear hb); (try clear hb2); (try clear hk); (try clear hi)) | (go_at_call 15; (with_reducible refine (Hand.addr_Domain.calls x5_1 t214 _ A12.out).mono ?_); rintro e w37 ⟨rfl, hb⟩; have n0_ := Aside0.mk (below_step (by repeat (first | (with_reducible first | exact HB.out | apply below_alloc | apply pw_below_drewN | apply below_drew1) | exact HB.out)) hb); clear HB; have HB := n0_; clear n0_; (try clear hb); (try clear hb2); (try clear hk); (try clear hi)) | (go_at_call 15; (with_reducible refine (Hand.addr_Domain.calls (x6_2.extract 1 x6_2.size) t215 _ A15.out).mono ?_); rintro e w38 ⟨rfl, hb⟩; have n0_ := Aside0.mk (below_step (by repeat (first | (with_reducible first | exact HB.out | apply below_alloc | apply pw_below_drewN | apply below_drew1) | exact HB.out)) hb); clear HB; have HB := n0_; clear n0_; (try clear hb); (try clear hb2); (try clear hk); (try clear hi)) | (go_at_call 15; (with_reducible refine (Hand.addr_Domain.calls x6_2 false _ A17.out).mono ?_); rintro e w39 ⟨rfl, hb⟩; have n0_ := Aside0.mk (below_step (by repeat (first | (with_reducible first | exact HB.out | apply below_alloc | apply pw_below_drewN | apply below_drew1) | exact HB.out)) hb); clear HB; have HB := n0_; clear n0_; (try clear hb); (try clear hb2); (try clear hk); (try clear hi)) | (go_at_call 13; (with_reducible refine (Hand.addr_Local.calls (x5_1 ++ (⟨#[46]⟩ : ByteArray)) false _ A25.out).mono ?_); rintro e w40 ⟨rfl, hb⟩; have n0_ := Aside0.mk (below_step (by repeat (first | (with_reducible first | exact HB.out | apply below_alloc | apply pw_below_drewN | apply below_drew1) | exact HB.out)) hb); clear HB; have HB := n0_; clear n0_; (try clear hb); (try clear hb2); (try clear hk); (try clear hi)) | (go_at_call 13; (with_reducible refine (Hand.addr_Local.calls ((⟨#[46]⟩ : ByteArray) ++ x5_1) t218 _ A34.out).mono ?_); rintro e w41 ⟨rfl, hb⟩; have n0_ := Aside0.mk (below_step (by repeat (first | (with_reducible first | exact HB.out | apply below_alloc | apply pw_below_drewN | apply below_drew1) | exact HB.out)) hb); clear HB; have HB := n0_; clear n0_; (try clear hb); (try clear hb2); (try clear hk); (try clear hi)))
                                go_ret
                                exact ⟨by first | rfl | (simp [errW_none, errW_some] <;> rfl) | (simp [*, errW_none, errW_some] <;> rfl), by repeat (first | (with_reducible first | exact HB.out | apply below_alloc | apply pw_below_drewN | apply below_drew1) | exact HB.out)⟩
                              · rw [if_neg c33] at H
                                exact absurd H (by simp)
                          · rw [if_neg c24] at H
                            exact absurd H (by simp)
                      · rw [if_neg c16] at H
                        have c16b0 : (t215 == (decide ((wrap64 ((x6_2.size : Int) - 1)) ≤ 255))) = false := by simpa using c16
                        (try (have c16b1 : decide (t215 = (decide ((wrap64 ((x6_2.size : Int) - 1)) ≤ 255))) = false := by simpa using c16))
                        (try (have c16b2 : (t215 == (decide ((wrap64 ((x6_2.size : Int) - 1)) ≤ 255))) = false := by simpa using c16))
                        (try (have c16b3 : ¬ (t215 = (decide ((wrap64 ((x6_2.size : Int) - 1)) ≤ 255))) := by simpa using c16))
                        clear c16
                        obtain rfl := Option.some.inj H
                        go_wp2_with (first | ((with_reducible refine gate_callee (f := 8) rfl ?_); refine goesL_ (some 34) rfl rfl Tryd.func8 (by kernel_rfl) rfl #[] rfl (by (try simp only [List.map_toArray, List.map_cons, List.map_nil]); first | done | rfl | (simp only [List.length_drop, List.length_take]; rfl)) ?_; (with_reducible refine (estafettelaw01_answers.calls k2  true _ A8.out).mono ?_); rintro e w42 ⟨rfl, hb⟩; refine ⟨_, rfl, ?_⟩; have n0_ := Aside0.mk (below_step (by repeat (first | (with_reducible first | exact HB.out | apply below_alloc | apply pw_below_drewN | apply below_drew1) | exact HB.out)) hb); clear HB; have HB := n0_; clear n0_; (try clear hb); (try clear hb2); (try clear hk); (try clear hi)) | (go_at_call 13; (with_reducible refine (Hand.addr_Local.calls x5_1 t213 _ A10.out).mono ?_); rintro e w43 ⟨rfl, hb⟩; have n0_ := Aside0.mk (below_step (by repeat (first | (with_reducible first | exact HB.out | apply below_alloc | apply pw_below_drewN | apply below_drew1) | exact HB.out)) hb); clear HB; have HB := n0_; clear n0_; (try clear hb); (try clear hb2); (try clear hk); (try clear hi)) | (go_at_call 15; (with_reducible refine (Hand.addr_Domain.calls x5_1 t214 _ A12.out).mono ?_); rintro e w44 ⟨rfl, hb⟩; have n0_ := Aside0.mk (below_step (by repeat (first | (with_reducible first | exact HB.out | apply below_alloc | apply pw_below_drewN | apply below_drew1) | exact HB.out)) hb); clear HB; have HB := n0_; clear n0_; (try clear hb); (try clear hb2); (try clear hk); (try clear hi)) | (go_at_call 15; (with_reducible refine (Hand.addr_Domain.calls (x6_2.extract 1 x6_2.size) t215 _ A15.out).mono ?_); rintro e w45 ⟨rfl, hb⟩; have n0_ := Aside0.mk (below_step (by repeat (first | (with_reducible first | exact HB.out | apply below_alloc | apply pw_below_drewN | apply below_drew1) | exact HB.out)) hb); clear HB; have HB := n0_; clear n0_; (try clear hb); (try clear hb2); (try clear hk); (try clear hi)))
                        go_ret
                        exact ⟨by first | rfl | (simp [errW_none, errW_some] <;> rfl) | (simp [*, errW_none, errW_some] <;> rfl), by repeat (first | (with_reducible first | exact HB.out | apply below_alloc | apply pw_below_drewN | apply below_drew1) | exact HB.out)⟩
                    · rw [if_neg c14] at H
                      exact absurd H (by simp)
                  · rw [if_neg c13] at H
                    have c13b0 : (t214 == (decide ((x5_1.size : Int) ≤ 63))) = false := by simpa using c13
                    (try (have c13b1 : decide (t214 = (decide ((x5_1.size : Int) ≤ 63))) = false := by simpa using c13))
                    (try (have c13b2 : (t214 == (decide ((x5_1.size : Int) ≤ 63))) = false := by simpa using c13))
                    (try (have c13b3 : ¬ (t214 = (decide ((x5_1.size : Int) ≤ 63))) := by simpa using c13))
                    clear c13
                    obtain rfl := Option.some.inj H
                    go_wp2_with (first | ((with_reducible refine gate_callee (f := 8) rfl ?_); refine goesL_ (some 34) rfl rfl Tryd.func8 (by kernel_rfl) rfl #[] rfl (by (try simp only [List.map_toArray, List.map_cons, List.map_nil]); first | done | rfl | (simp only [List.length_drop, List.length_take]; rfl)) ?_; (with_reducible refine (estafettelaw01_answers.calls k2  true _ A8.out).mono ?_); rintro e w46 ⟨rfl, hb⟩; refine ⟨_, rfl, ?_⟩; have n0_ := Aside0.mk (below_step (by repeat (first | (with_reducible first | exact HB.out | apply below_alloc | apply pw_below_drewN | apply below_drew1) | exact HB.out)) hb); clear HB; have HB := n0_; clear n0_; (try clear hb); (try clear hb2); (try clear hk); (try clear hi)) | (go_at_call 13; (with_reducible refine (Hand.addr_Local.calls x5_1 t213 _ A10.out).mono ?_); rintro e w47 ⟨rfl, hb⟩; have n0_ := Aside0.mk (below_step (by repeat (first | (with_reducible first | exact HB.out | apply below_alloc | apply pw_below_drewN | apply below_drew1) | exact HB.out)) hb); clear HB; have HB := n0_; clear n0_; (try clear hb); (try clear hb2); (try clear hk); (try clear hi)) | (go_at_call 15; (with_reducible refine (Hand.addr_Domain.calls x5_1 t214 _ A12.out).mono ?_); rintro e w48 ⟨rfl, hb⟩; have n0_ := Aside0.mk (below_step (by repeat (first | (with_reducible first | exact HB.out | apply below_alloc | apply pw_below_drewN | apply below_drew1) | exact HB.out)) hb); clear HB; have HB := n0_; clear n0_; (try clear hb); (try clear hb2); (try clear hk); (try clear hi)))
                    go_ret
                    exact ⟨by first | rfl | (simp [errW_none, errW_some] <;> rfl) | (simp [*, errW_none, errW_some] <;> rfl), by repeat (first | (with_reducible first | exact HB.out | apply below_alloc | apply pw_below_drewN | apply below_drew1) | exact HB.out)⟩
                · rw [if_neg c11] at H
                  have c11b0 : (t213 == (decide ((x5_1.size : Int) ≤ 64))) = false := by simpa using c11
                  (try (have c11b1 : decide (t213 = (decide ((x5_1.size : Int) ≤ 64))) = false := by simpa using c11))
                  (try (have c11b2 : (t213 == (decide ((x5_1.size : Int) ≤ 64))) = false := by simpa using c11))
                  (try (have c11b3 : ¬ (t213 = (decide ((x5_1.size : Int) ≤ 64))) := by simpa using c11))
                  clear c11
                  obtain rfl := Option.some.inj H
                  go_wp2_with (first | ((with_reducible refine gate_callee (f := 8) rfl ?_); refine goesL_ (some 34) rfl rfl Tryd.func8 (by kernel_rfl) rfl #[] rfl (by (try simp only [List.map_toArray, List.map_cons, List.map_nil]); first | done | rfl | (simp only [List.length_drop, List.length_take]; rfl)) ?_; (with_reducible refine (estafettelaw01_answers.calls k2  true _ A8.out).mono ?_); rintro e w49 ⟨rfl, hb⟩; refine ⟨_, rfl, ?_⟩; have n0_ := Aside0.mk (below_step (by repeat (first | (with_reducible first | exact HB.out | apply below_alloc | apply pw_below_drewN | apply below_drew1) | exact HB.out)) hb); clear HB; have HB := n0_; clear n0_; (try clear hb); (try clear hb2); (try clear hk); (try clear hi)) | (go_at_call 13; (with_reducible refine (Hand.addr_Local.calls x5_1 t213 _ A10.out).mono ?_); rintro e w50 ⟨rfl, hb⟩; have n0_ := Aside0.mk (below_step (by repeat (first | (with_reducible first | exact HB.out | apply below_alloc | apply pw_below_drewN | apply below_drew1) | exact HB.out)) hb); clear HB; have HB := n0_; clear n0_; (try clear hb); (try clear hb2); (try clear hk); (try clear hi)))
                  go_ret
                  exact ⟨by first | rfl | (simp [errW_none, errW_some] <;> rfl) | (simp [*, errW_none, errW_some] <;> rfl), by repeat (first | (with_reducible first | exact HB.out | apply below_alloc | apply pw_below_drewN | apply below_drew1) | exact HB.out)⟩
              · replace c9 := Bool.eq_false_iff.mpr c9
                subst c9
                have H1 : (some false) = some r := by rw [if_neg (show ¬ (false = true) by decide)] at H; exact H
                clear H
                have H := H1
                clear H1
                obtain rfl := Option.some.inj H
                go_wp2_with (first | ((with_reducible refine gate_callee (f := 8) rfl ?_); refine goesL_ (some 34) rfl rfl Tryd.func8 (by kernel_rfl) rfl #[] rfl (by (try simp only [List.map_toArray, List.map_cons, List.map_nil]); first | done | rfl | (simp only [List.length_drop, List.length_take]; rfl)) ?_; (with_reducible refine (estafettelaw01_answers.calls k2  false _ A8.out).mono ?_); rintro e w51 ⟨rfl, hb⟩; refine ⟨_, rfl, ?_⟩; have n0_ := Aside0.mk (below_step (by repeat (first | (with_reducible first | exact HB.out | apply below_alloc | apply pw_below_drewN | apply below_drew1) | exact HB.out)) hb); clear HB; have HB := n0_; clear n0_; (try clear hb); (try clear hb2); (try clear hk); (try clear hi)))
                go_ret
                exact ⟨by first | rfl | (simp [errW_none, errW_some] <;> rfl) | (simp [*, errW_none, errW_some] <;> rfl), by repeat (first | (with_reducible first | exact HB.out | apply below_alloc | apply pw_below_drewN | apply below_drew1) | exact HB.out)⟩

/-- THE ONE PURE STATEMENT of estafettelaw01_AddrLengths: yours. -/
def estafettelaw01_AddrLengths.Pure : Prop := ∀ (a0 : Int) (a1 : Int), (Lit.int .u8 a0).wf = true → (Lit.int .u8 a1).wf = true → ∃ k, estafettelaw01_AddrLengths.f k a0 a1 = some true
theorem estafettelaw01_AddrLengths.walk (P : estafettelaw01_AddrLengths.Pure) (a0 : Int) (a1 : Int) (w : World) (w0 : (Lit.int .u8 a0).wf = true) (w1 : (Lit.int .u8 a1).wf = true) :
    Calls Tryd.prog 7 #[.int .u8 a0, .int .u8 a1] w fun e w' => e = .returned (.bool true) ∧ Below w.heap.size w w' := by
  obtain ⟨k, h⟩ := P a0 a1 w0 w1
  refine (estafettelaw01_AddrLengths.calls k a0 a1 true w h).mono ?_
  rintro e w' ⟨rfl, hd⟩
  exact ⟨rfl, hd⟩

end Go.Proofs.YtikfdngidbppbaaDoor.PB
