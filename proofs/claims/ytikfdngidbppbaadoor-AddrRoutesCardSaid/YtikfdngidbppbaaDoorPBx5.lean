/- For every input: what the functions below return, or the statement that this text proves. Written by a program of this claim.s author (a turned print). -/
import Derived.Test.YtikfdngidbppbaaDoorPBx0
import Derived.Test.YtikfdngidbppbaaDoorPBx1
import Derived.Test.YtikfdngidbppbaaDoorPBx3
namespace Go.Proofs.YtikfdngidbppbaaDoor.PB
open Go.RowKit Go.Proofs.YtikfdngidbppbaaDoorW.PrintWords Go.Proofs.YtikfdngidbppbaaDoorW.PrintLast Go.Proofs.YtikfdngidbppbaaDoorW.PrintMore
attribute [local go_sem] max2_int min2_int max_two min_two max_three min_three max_four min_four   -- for this text's walks alone
set_option linter.unusedVariables false
set_option linter.unusedSimpArgs false

/-! ### estafetteref01_Path: function 18 -/
mutual
def estafetteref01_Path.j0 : Nat → ByteArray → Bool → Option (ByteArray × Bool)
  | 0, _, _ => none
  | k + 1, x0, x25 => if x25 = true then (some ((⟨#[]⟩ : ByteArray), false)) else (if 1 ≤ (wrap64 ((x0.size : Int) - 1)) then (if (wrap64 ((x0.size : Int) - 1)) ≤ (x0.size : Int) then (if ((x0.extract 1 ((wrap64 ((x0.size : Int) - 1)) : Int).toNat).size : Int) > 0 then (if 0 < ((x0.extract 1 ((wrap64 ((x0.size : Int) - 1)) : Int).toNat).size : Int) then (estafetteref01_Path.j1 k (x0.extract 1 ((wrap64 ((x0.size : Int) - 1)) : Int).toNat) ((bt (x0.extract 1 ((wrap64 ((x0.size : Int) - 1)) : Int).toNat) 0) == 64)) else (none)) else (estafetteref01_Path.j1 k (x0.extract 1 ((wrap64 ((x0.size : Int) - 1)) : Int).toNat) false)) else (none)) else (none))
def estafetteref01_Path.j1 : Nat → ByteArray → Bool → Option (ByteArray × Bool)
  | 0, _, _ => none
  | k + 1, x4, x38 => if x38 = true then ((estafetteref01_find.f k x4 58).bind fun t163 => (if t163 < 0 then (some ((⟨#[]⟩ : ByteArray), false)) else (if 0 ≤ t163 then (if t163 ≤ (x4.size : Int) then ((estafetteref01_Cut.f k (x4.extract 0 (t163 : Int).toNat) 44).bind fun t164 => (estafetteref01_Path.l0 k x4 t163 t164 0)) else (none)) else (none)))) else ((estafetteref01_Canon.f k x4).bind fun bt173 => (some (bt173.1, bt173.2)))
def estafetteref01_Path.l0 : Nat → ByteArray → Int → List ByteArray → Int → Option (ByteArray × Bool)
  | 0, _, _, _, _ => none
  | k + 1, x4, x5, x6, x7 => if x7 < (x6.length : Int) then (if 0 ≤ x7 then (if ((rdOf ByteArray.empty x6 x7).size : Int) = 0 then (some ((⟨#[]⟩ : ByteArray), false)) else (if 0 < ((rdOf ByteArray.empty x6 x7).size : Int) then (if (bt (rdOf ByteArray.empty x6 x7) 0) = 64 then (if 1 ≤ ((rdOf ByteArray.empty x6 x7).size : Int) then ((estafetteref01_Domain.f k ((rdOf ByteArray.empty x6 x7).extract 1 (rdOf ByteArray.empty x6 x7).size)).bind fun t170 => (if t170 = true then (estafetteref01_Path.l0 k x4 x5 x6 (wrap64 (x7 + 1))) else (some ((⟨#[]⟩ : ByteArray), false)))) else (none)) else (some ((⟨#[]⟩ : ByteArray), false))) else (none))) else (none)) else (if 0 ≤ (wrap64 (x5 + 1)) then (if (wrap64 (x5 + 1)) ≤ (x4.size : Int) then ((estafetteref01_Canon.f k (x4.extract ((wrap64 (x5 + 1)) : Int).toNat x4.size)).bind fun bt171 => (some (bt171.1, bt171.2))) else (none)) else (none))
end
def estafetteref01_Path.f (k : Nat) (a0 : ByteArray) : Option (ByteArray × Bool) := if a0.toList = ([60, 62] : List UInt8) then (some ((⟨#[]⟩ : ByteArray), true)) else (if (a0.size : Int) < 2 then (estafetteref01_Path.j0 k a0 true) else (if 0 < (a0.size : Int) then (if (bt a0 0) = 60 then (if 0 ≤ (wrap64 ((a0.size : Int) - 1)) then (if (wrap64 ((a0.size : Int) - 1)) < (a0.size : Int) then (estafetteref01_Path.j0 k a0 ((bt a0 (wrap64 ((a0.size : Int) - 1))) != 62)) else (none)) else (none)) else (estafetteref01_Path.j0 k a0 true)) else (none)))
theorem estafetteref01_Path.mono_l : ∀ k, (∀ y0 y1, LeO (estafetteref01_Path.j0 k y0 y1) (estafetteref01_Path.j0 (k + 1) y0 y1)) ∧ (∀ y0 y1, LeO (estafetteref01_Path.j1 k y0 y1) (estafetteref01_Path.j1 (k + 1) y0 y1)) ∧ (∀ y0 y1 y2 y3, LeO (estafetteref01_Path.l0 k y0 y1 y2 y3) (estafetteref01_Path.l0 (k + 1) y0 y1 y2 y3))
  | 0 => ⟨fun _ _ r h => by simp [estafetteref01_Path.j0] at h, fun _ _ r h => by simp [estafetteref01_Path.j1] at h, fun _ _ _ _ r h => by simp [estafetteref01_Path.l0] at h⟩
  | k + 1 => by
    obtain ⟨ih0, ih1, ih2⟩ := estafetteref01_Path.mono_l k
    refine ⟨?_, ?_, ?_⟩
    · intro y0 y1
      unfold estafetteref01_Path.j0
      repeat' first
      | (with_reducible exact ih0 _ _)
      | (with_reducible exact ih1 _ _)
      | (with_reducible exact ih2 _ _ _ _)
      | (with_reducible exact estafetteref01_Canon.mono _ _)
      | (with_reducible exact estafetteref01_Cut.mono _ _ _)
      | (with_reducible exact estafetteref01_Domain.mono _ _)
      | (with_reducible exact estafetteref01_find.mono _ _ _)
      | (with_reducible exact LeO.refl _)
      | (with_reducible exact LeO.none _)
      | (with_reducible refine LeO.ite ?_ ?_)
      | (with_reducible refine LeO.bind ?_ (fun _ => ?_))
      | exact ih0 _ _
      | exact ih1 _ _
      | exact ih2 _ _ _ _
      | exact estafetteref01_Canon.mono _ _
      | exact estafetteref01_Cut.mono _ _ _
      | exact estafetteref01_Domain.mono _ _
      | exact estafetteref01_find.mono _ _ _
      | exact LeO.none _
      | refine LeO.ite ?_ ?_
      | refine LeO.bind ?_ (fun _ => ?_)
    · intro y0 y1
      unfold estafetteref01_Path.j1
      repeat' first
      | (with_reducible exact ih0 _ _)
      | (with_reducible exact ih1 _ _)
      | (with_reducible exact ih2 _ _ _ _)
      | (with_reducible exact estafetteref01_Canon.mono _ _)
      | (with_reducible exact estafetteref01_Cut.mono _ _ _)
      | (with_reducible exact estafetteref01_Domain.mono _ _)
      | (with_reducible exact estafetteref01_find.mono _ _ _)
      | (with_reducible exact LeO.refl _)
      | (with_reducible exact LeO.none _)
      | (with_reducible refine LeO.ite ?_ ?_)
      | (with_reducible refine LeO.bind ?_ (fun _ => ?_))
      | exact ih0 _ _
      | exact ih1 _ _
      | exact ih2 _ _ _ _
      | exact estafetteref01_Canon.mono _ _
      | exact estafetteref01_Cut.mono _ _ _
      | exact estafetteref01_Domain.mono _ _
      | exact estafetteref01_find.mono _ _ _
      | exact LeO.none _
      | refine LeO.ite ?_ ?_
      | refine LeO.bind ?_ (fun _ => ?_)
    · intro y0 y1 y2 y3
      unfold estafetteref01_Path.l0
      repeat' first
      | (with_reducible exact ih0 _ _)
      | (with_reducible exact ih1 _ _)
      | (with_reducible exact ih2 _ _ _ _)
      | (with_reducible exact estafetteref01_Canon.mono _ _)
      | (with_reducible exact estafetteref01_Cut.mono _ _ _)
      | (with_reducible exact estafetteref01_Domain.mono _ _)
      | (with_reducible exact estafetteref01_find.mono _ _ _)
      | (with_reducible exact LeO.refl _)
      | (with_reducible exact LeO.none _)
      | (with_reducible refine LeO.ite ?_ ?_)
      | (with_reducible refine LeO.bind ?_ (fun _ => ?_))
      | exact ih0 _ _
      | exact ih1 _ _
      | exact ih2 _ _ _ _
      | exact estafetteref01_Canon.mono _ _
      | exact estafetteref01_Cut.mono _ _ _
      | exact estafetteref01_Domain.mono _ _
      | exact estafetteref01_find.mono _ _ _
      | exact LeO.none _
      | refine LeO.ite ?_ ?_
      | refine LeO.bind ?_ (fun _ => ?_)
theorem estafetteref01_Path.mono : ∀ a0 k, LeO (estafetteref01_Path.f k a0) (estafetteref01_Path.f (k + 1) a0) := by
  intro a0 k
  obtain ⟨ih0, ih1, ih2⟩ := estafetteref01_Path.mono_l k
  unfold estafetteref01_Path.f
  repeat' first
      | (with_reducible exact ih0 _ _)
      | (with_reducible exact ih1 _ _)
      | (with_reducible exact ih2 _ _ _ _)
      | (with_reducible exact estafetteref01_Canon.mono _ _)
      | (with_reducible exact estafetteref01_Cut.mono _ _ _)
      | (with_reducible exact estafetteref01_Domain.mono _ _)
      | (with_reducible exact estafetteref01_find.mono _ _ _)
      | (with_reducible exact LeO.refl _)
      | (with_reducible exact LeO.none _)
      | (with_reducible refine LeO.ite ?_ ?_)
      | (with_reducible refine LeO.bind ?_ (fun _ => ?_))
      | exact ih0 _ _
      | exact ih1 _ _
      | exact ih2 _ _ _ _
      | exact estafetteref01_Canon.mono _ _
      | exact estafetteref01_Cut.mono _ _ _
      | exact estafetteref01_Domain.mono _ _
      | exact estafetteref01_find.mono _ _ _
      | exact LeO.none _
      | refine LeO.ite ?_ ?_
      | refine LeO.bind ?_ (fun _ => ?_)
set_option maxHeartbeats 8000000 in
set_option maxRecDepth 100000 in
theorem estafetteref01_Path.calls (k : Nat) (a0 : ByteArray) (r1 : ByteArray) (r2 : Bool) (w : World) (h : estafetteref01_Path.f k a0 = some (r1, r2)) :
    Calls Tryd.prog 18 #[.string a0] w fun e w' => e = .returned (.tuple #[.string r1, .bool r2]) ∧ Below w.heap.size w w' := by
  have HB := Aside0.mk (Below.refl w.heap.size w)
  have H : (if a0.toList = ([60, 62] : List UInt8) then (some ((⟨#[]⟩ : ByteArray), true)) else (if (a0.size : Int) < 2 then (estafetteref01_Path.j0 k a0 true) else (if 0 < (a0.size : Int) then (if (bt a0 0) = 60 then (if 0 ≤ (wrap64 ((a0.size : Int) - 1)) then (if (wrap64 ((a0.size : Int) - 1)) < (a0.size : Int) then (estafetteref01_Path.j0 k a0 ((bt a0 (wrap64 ((a0.size : Int) - 1))) != 62)) else (none)) else (none)) else (estafetteref01_Path.j0 k a0 true)) else (none)))) = some (r1, r2) := h
  clear h
  by_cases c2 : a0.toList = ([60, 62] : List UInt8)
  · rw [if_pos c2] at H
    have c2b0 : (a0.toList == ([60, 62] : List UInt8)) = true := beq_iff_eq.mpr c2
    have c2b1 : (a0.toList != ([60, 62] : List UInt8)) = false := bne_eq_false_iff_eq.mpr c2
    clear c2
    simp only [Option.some.injEq, Prod.mk.injEq] at H
    obtain ⟨rfl, rfl⟩ := H
    go_enter Tryd.func18, Tryd.ntmps18
    go_wp2
    go_ret2
    exact ⟨by first | rfl | (simp [errW_none, errW_some] <;> rfl) | (simp [*, errW_none, errW_some] <;> rfl), by repeat (first | (with_reducible first | exact HB.out | apply below_alloc | apply pw_below_drewN | apply below_drew1) | exact HB.out)⟩
  · rw [if_neg c2] at H
    have c2b0 : (a0.toList == ([60, 62] : List UInt8)) = false := beq_eq_false_iff_ne.mpr c2
    have c2b1 : (a0.toList != ([60, 62] : List UInt8)) = true := bne_iff_ne.mpr c2
    have HC3 := Aside0.mk H
    clear H
    go_enter Tryd.func18, Tryd.ntmps18
    go_upto_region 3 with (fail)
    go_cut [25] (fun v25 wc => ∃ (kq : Nat) (x25_2 : Bool), v25 = .bool x25_2 ∧ Aside0 (estafetteref01_Path.j0 kq a0 x25_2 = some (r1, r2)) ∧ Aside0 (kq ≤ k) ∧ Aside0 (Below w.heap.size w wc))
    case first =>
      have H := HC3.out
      clear HC3
      by_cases c4 : (a0.size : Int) < 2
      · rw [if_pos c4] at H
        have c4b0 : decide ((a0.size : Int) < 2) = true := decide_eq_true c4
        have c4b1 : decide (a0.size < 2) = true := decide_eq_true (by omega)
        clear c4
        (first | rw [c4b0] | (simp only [i64_w, i32_w]; rw [c4b0]) | skip)
        have H' := Aside0.mk H
        clear H
        go_wp2
        go_meet
        case rel => exact ⟨_, (true), (by first | rfl | (simp; done) | (simp [*]; done)), H', ⟨by first | omega | exact Nat.le_refl _⟩, ⟨by repeat (first | (with_reducible first | exact HB.out | apply below_alloc | apply pw_below_drewN | apply below_drew1) | exact HB.out)⟩⟩
      · rw [if_neg c4] at H
        have c4b0 : decide ((a0.size : Int) < 2) = false := decide_eq_false c4
        have c4b1 : decide (a0.size < 2) = false := decide_eq_false (by omega)
        clear c4
        (first | rw [c4b0] | (simp only [i64_w, i32_w]; rw [c4b0]) | skip)
        by_cases c5 : 0 < (a0.size : Int)
        · rw [if_pos c5] at H
          have c5b0 : decide (0 < (a0.size : Int)) = true := decide_eq_true c5
          have c5b1 : decide (0 < a0.size) = true := decide_eq_true (by omega)
          clear c5
          by_cases c7 : (bt a0 0) = 60
          · rw [if_pos c7] at H
            have c7b0 : ((bt a0 0) == 60) = true := beq_iff_eq.mpr c7
            have c7b1 : ((bt a0 0) != 60) = false := bne_eq_false_iff_eq.mpr c7
            clear c7
            obtain ⟨ji8, hji8⟩ : ∃ j_ : Int, (wrap64 ((a0.size : Int) - 1)) = j_ := ⟨_, rfl⟩
            replace H : (if 0 ≤ (ji8) then (if (ji8) < (a0.size : Int) then (estafetteref01_Path.j0 k a0 ((bt a0 (ji8)) != 62)) else (none)) else (none)) = some (r1, r2) := by first | (rw [hji8] at H; exact H) | (simp only [hji8] at H ⊢; exact H)
            have hji8w : (IntKind.i64.wrap ((a0.size : Int) - 1)) = ji8 := (i64_w _).trans hji8
            by_cases c9 : 0 ≤ (ji8)
            · rw [if_pos c9] at H
              have c9b0 : decide (0 ≤ (ji8)) = true := decide_eq_true c9
              clear c9
              by_cases c10 : (ji8) < (a0.size : Int)
              · rw [if_pos c10] at H
                have c10b0 : decide ((ji8) < (a0.size : Int)) = true := decide_eq_true c10
                clear c10
                have H' := Aside0.mk H
                clear H
                have p6 : 0 ≤ (0 : Int) := (by omega)
                have q6 : 0 < a0.size := (by have : (0 : Int) < (a0.size : Int) := of_decide_eq_true (by first | (with_reducible assumption) | assumption); omega)
                have hx6 : ∀ h : 0 < a0.size, ((a0[0]'h).toNat : Int) = bt a0 0 := bt_at a0 0
                clear p6
                have qi6 : (0 < (a0.size : Int)) = True := eq_true (of_decide_eq_true (by first | (with_reducible assumption) | assumption))
                replace q6 := eq_true q6
                have p11 : 0 ≤ ((ji8) : Int) := of_decide_eq_true (by first | (with_reducible assumption) | assumption)
                have q11 : (ji8) < (a0.size : Int) := of_decide_eq_true (by first | (with_reducible assumption) | assumption)
                have hx11 := bt_at a0 (ji8)
                replace p11 := eq_true p11
                replace q11 := eq_true q11
                go_wp2
                go_meet
                case rel => exact ⟨_, (((bt a0 (ji8)) != 62)), (by first | rfl | (simp; done) | (simp only [← hji8] <;> (first | rfl | simp)) | (simp [*]; done)), H', ⟨by first | omega | exact Nat.le_refl _⟩, ⟨by repeat (first | (with_reducible first | exact HB.out | apply below_alloc | apply pw_below_drewN | apply below_drew1) | exact HB.out)⟩⟩
              · rw [if_neg c10] at H
                exact absurd H (by simp)
            · rw [if_neg c9] at H
              exact absurd H (by simp)
          · rw [if_neg c7] at H
            have c7b0 : ((bt a0 0) == 60) = false := beq_eq_false_iff_ne.mpr c7
            have c7b1 : ((bt a0 0) != 60) = true := bne_iff_ne.mpr c7
            have H' := Aside0.mk H
            clear H
            have p6 : 0 ≤ (0 : Int) := (by omega)
            have q6 : 0 < a0.size := (by have : (0 : Int) < (a0.size : Int) := of_decide_eq_true (by first | (with_reducible assumption) | assumption); omega)
            have hx6 : ∀ h : 0 < a0.size, ((a0[0]'h).toNat : Int) = bt a0 0 := bt_at a0 0
            clear p6
            have qi6 : (0 < (a0.size : Int)) = True := eq_true (of_decide_eq_true (by first | (with_reducible assumption) | assumption))
            replace q6 := eq_true q6
            go_wp2
            go_meet
            case rel => exact ⟨_, (true), (by first | rfl | (simp; done) | (simp [*]; done)), H', ⟨by first | omega | exact Nat.le_refl _⟩, ⟨by repeat (first | (with_reducible first | exact HB.out | apply below_alloc | apply pw_below_drewN | apply below_drew1) | exact HB.out)⟩⟩
        · rw [if_neg c5] at H
          exact absurd H (by simp)
    case rest =>
      clear HC3
      try clear c1
      try clear p1
      try clear q1
      try clear hx1
      try clear c2
      try clear c2b0
      try clear c2b1
      try clear p2
      try clear c4
      try clear c4b0
      try clear c4b1
      try clear c5
      try clear c5b0
      try clear c5b1
      try clear p6
      try clear q6
      try clear hx6
      try clear qi6
      try clear c7
      try clear c7b0
      try clear c7b1
      try clear c9
      try clear c9b0
      try clear c10
      try clear c10b0
      try clear p11
      try clear q11
      try clear hx11
      try clear p11
      try clear p6
      try clear q11
      try clear q6
      obtain ⟨kq, x25_2, rfl, HA, HJ2, HB⟩ := hcut
      cases kq with
      | zero => exact absurd HA.out (by simp [estafetteref01_Path.j0])
      | succ kj2 =>
        have H := HA.out
        clear HA
        simp only [estafetteref01_Path.j0] at H
        by_cases c12 : x25_2 = true
        · subst c12
          have H1 : (some ((⟨#[]⟩ : ByteArray), false)) = some (r1, r2) := by rw [if_pos rfl] at H; exact H
          clear H
          have H := H1
          clear H1
          simp only [Option.some.injEq, Prod.mk.injEq] at H
          obtain ⟨rfl, rfl⟩ := H
          go_wp2
          go_ret2
          exact ⟨by first | rfl | (simp [errW_none, errW_some] <;> rfl) | (simp [*, errW_none, errW_some] <;> rfl), by repeat (first | (with_reducible first | exact HB.out | apply below_alloc | apply pw_below_drewN | apply below_drew1) | exact HB.out)⟩
        · replace c12 := Bool.eq_false_iff.mpr c12
          subst c12
          have H1 : (if 1 ≤ (wrap64 ((a0.size : Int) - 1)) then (if (wrap64 ((a0.size : Int) - 1)) ≤ (a0.size : Int) then (if ((a0.extract 1 ((wrap64 ((a0.size : Int) - 1)) : Int).toNat).size : Int) > 0 then (if 0 < ((a0.extract 1 ((wrap64 ((a0.size : Int) - 1)) : Int).toNat).size : Int) then (estafetteref01_Path.j1 kj2 (a0.extract 1 ((wrap64 ((a0.size : Int) - 1)) : Int).toNat) ((bt (a0.extract 1 ((wrap64 ((a0.size : Int) - 1)) : Int).toNat) 0) == 64)) else (none)) else (estafetteref01_Path.j1 kj2 (a0.extract 1 ((wrap64 ((a0.size : Int) - 1)) : Int).toNat) false)) else (none)) else (none)) = some (r1, r2) := by rw [if_neg (show ¬ (false = true) by decide)] at H; exact H
          clear H
          have H := H1
          clear H1
          by_cases c13 : 1 ≤ (wrap64 ((a0.size : Int) - 1))
          · rw [if_pos c13] at H
            have c13b0 := eq_true c13
            have c13b1 : decide (1 ≤ (wrap64 ((a0.size : Int) - 1))) = true := decide_eq_true c13
            clear c13
            by_cases c14 : (wrap64 ((a0.size : Int) - 1)) ≤ (a0.size : Int)
            · rw [if_pos c14] at H
              have c14b0 := eq_true c14
              have c14b1 : decide ((wrap64 ((a0.size : Int) - 1)) ≤ (a0.size : Int)) = true := decide_eq_true c14
              clear c14
              obtain ⟨zc1, hzc1⟩ : ∃ z_ : ByteArray, (a0.extract 1 ((wrap64 ((a0.size : Int) - 1)) : Int).toNat) = z_ := ⟨_, rfl⟩
              rw [hzc1] at H
              have HC15 := Aside0.mk H
              clear H
              go_upto_region 6 with (fail)
              go_cut [38] (fun v38 wc => ∃ (kq : Nat) (x38_14 : Bool), v38 = .bool x38_14 ∧ Aside0 (estafetteref01_Path.j1 kq zc1 x38_14 = some (r1, r2)) ∧ Aside0 (kq ≤ kj2) ∧ Aside0 (Below w.heap.size w wc))
              case first =>
                have H := HC15.out
                clear HC15
                by_cases c16 : (zc1.size : Int) > 0
                · rw [if_pos c16] at H
                  have c16b0 : decide (0 < (zc1.size : Int)) = true := decide_eq_true c16
                  have c16b1 : decide (0 < zc1.size) = true := decide_eq_true (by omega)
                  clear c16
                  (first | rw [c16b0] | (simp only [i64_w, i32_w]; rw [c16b0]) | skip)
                  by_cases c17 : 0 < (zc1.size : Int)
                  · rw [if_pos c17] at H
                    have c17b0 : decide (0 < (zc1.size : Int)) = true := decide_eq_true c17
                    have c17b1 : decide (0 < zc1.size) = true := decide_eq_true (by omega)
                    clear c17
                    have H' := Aside0.mk H
                    clear H
                    have p18 : 0 ≤ (0 : Int) := (by omega)
                    have q18 : 0 < zc1.size := (by have : (0 : Int) < (zc1.size : Int) := of_decide_eq_true (by first | (with_reducible assumption) | assumption); omega)
                    have hx18 : ∀ h : 0 < zc1.size, ((zc1[0]'h).toNat : Int) = bt zc1 0 := bt_at zc1 0
                    clear p18
                    have qi18 : (0 < (zc1.size : Int)) = True := eq_true (of_decide_eq_true (by first | (with_reducible assumption) | assumption))
                    replace q18 := eq_true q18
                    go_wp2
                    go_meet
                    case rel => exact ⟨_, (((bt zc1 0) == 64)), (by first | rfl | (simp; done) | (simp [*]; done)), H', ⟨by have := HJ2.out; first | omega | exact Nat.le_refl _⟩, ⟨by repeat (first | (with_reducible first | exact HB.out | apply below_alloc | apply pw_below_drewN | apply below_drew1) | exact HB.out)⟩⟩
                  · rw [if_neg c17] at H
                    exact absurd H (by simp)
                · rw [if_neg c16] at H
                  have c16b0 : decide (0 < (zc1.size : Int)) = false := decide_eq_false c16
                  have c16b1 : decide (0 < zc1.size) = false := decide_eq_false (by omega)
                  clear c16
                  (first | rw [c16b0] | (simp only [i64_w, i32_w]; rw [c16b0]) | skip)
                  have H' := Aside0.mk H
                  clear H
                  go_wp2
                  go_meet
                  case rel => exact ⟨_, (false), (by first | rfl | (simp; done) | (simp [*]; done)), H', ⟨by have := HJ2.out; first | omega | exact Nat.le_refl _⟩, ⟨by repeat (first | (with_reducible first | exact HB.out | apply below_alloc | apply pw_below_drewN | apply below_drew1) | exact HB.out)⟩⟩
              case rest =>
                clear HC15
                try clear c1
                try clear p1
                try clear q1
                try clear hx1
                try clear qi1
                try clear c2
                try clear c2b0
                try clear c2b1
                try clear p2
                try clear c4
                try clear c4b0
                try clear c4b1
                try clear c5
                try clear c5b0
                try clear c5b1
                try clear p6
                try clear q6
                try clear hx6
                try clear qi6
                try clear c7
                try clear c7b0
                try clear c7b1
                try clear c9
                try clear c9b0
                try clear c10
                try clear c10b0
                try clear p11
                try clear q11
                try clear hx11
                try clear c12
                try clear c13
                try clear c13b0
                try clear c13b1
                try clear c14
                try clear c14b0
                try clear c14b1
                try clear c16
                try clear c16b0
                try clear c16b1
                try clear c17
                try clear c17b0
                try clear c17b1
                try clear c18
                try clear p18
                try clear q18
                try clear hx18
                try clear qi18
                try clear p1
                try clear p11
                try clear p18
                try clear p2
                try clear p6
                try clear q1
                try clear q11
                try clear q18
                try clear q6
                obtain ⟨kq, x38_14, rfl, HA, HJ14, HB⟩ := hcut
                cases kq with
                | zero => exact absurd HA.out (by simp [estafetteref01_Path.j1])
                | succ kj14 =>
                  have H := HA.out
                  clear HA
                  simp only [estafetteref01_Path.j1] at H
                  by_cases c19 : x38_14 = true
                  · subst c19
                    have H1 : ((estafetteref01_find.f kj14 zc1 58).bind fun t163 => (if t163 < 0 then (some ((⟨#[]⟩ : ByteArray), false)) else (if 0 ≤ t163 then (if t163 ≤ (zc1.size : Int) then ((estafetteref01_Cut.f kj14 (zc1.extract 0 (t163 : Int).toNat) 44).bind fun t164 => (estafetteref01_Path.l0 kj14 zc1 t163 t164 0)) else (none)) else (none)))) = some (r1, r2) := by rw [if_pos rfl] at H; exact H
                    clear H
                    have H := H1
                    clear H1
                    replace H := Option.bind_eq_some_iff.mp H
                    obtain ⟨t163, A200, H⟩ := H
                    replace H : (if t163 < 0 then (some ((⟨#[]⟩ : ByteArray), false)) else (if 0 ≤ t163 then (if t163 ≤ (zc1.size : Int) then ((estafetteref01_Cut.f kj14 (zc1.extract 0 (t163 : Int).toNat) 44).bind fun t164 => (estafetteref01_Path.l0 kj14 zc1 t163 t164 0)) else (none)) else (none))) = some (r1, r2) := H
                    have A20 := Aside0.mk A200
                    clear A200
                    by_cases c21 : t163 < 0
                    · rw [if_pos c21] at H
                      have c21b0 : decide (t163 < 0) = true := decide_eq_true c21
                      clear c21
                      simp only [Option.some.injEq, Prod.mk.injEq] at H
                      obtain ⟨rfl, rfl⟩ := H
                      go_wp2_with (first | ((with_reducible refine gate_callee (f := 21) rfl ?_); refine goesL_ (some 40) rfl rfl Tryd.func21 (by kernel_rfl) rfl #[.string zc1, .int .u8 58] rfl (by (try simp only [List.map_toArray, List.map_cons, List.map_nil]); first | done | rfl | (simp only [List.length_drop, List.length_take]; rfl)) ?_; (with_reducible refine (estafetteref01_find.calls kj14 zc1 58 t163 _ A20.out).mono ?_); rintro e w' ⟨rfl, ⟨nd, rfl⟩⟩; refine ⟨_, rfl, ?_⟩))
                      go_ret2
                      exact ⟨by first | rfl | (simp [errW_none, errW_some] <;> rfl) | (simp [*, errW_none, errW_some] <;> rfl), by repeat (first | (with_reducible first | exact HB.out | apply below_alloc | apply pw_below_drewN | apply below_drew1) | exact HB.out)⟩
                    · rw [if_neg c21] at H
                      have c21b0 : decide (t163 < 0) = false := decide_eq_false c21
                      clear c21
                      by_cases c22 : 0 ≤ t163
                      · rw [if_pos c22] at H
                        have c22b0 := eq_true c22
                        have c22b1 : decide (0 ≤ t163) = true := decide_eq_true c22
                        clear c22
                        by_cases c23 : t163 ≤ (zc1.size : Int)
                        · rw [if_pos c23] at H
                          have c23b0 := eq_true c23
                          have c23b1 : decide (t163 ≤ (zc1.size : Int)) = true := decide_eq_true c23
                          (try (have c23r := c23; rw [ByteArray.size_extract, Nat.min_eq_left (by omega)] at c23r; have c23s := eq_false (Nat.not_lt.2 c23r)))
                          clear c23
                          replace H := Option.bind_eq_some_iff.mp H
                          obtain ⟨t164, A240, H⟩ := H
                          replace H : (estafetteref01_Path.l0 kj14 zc1 t163 t164 0) = some (r1, r2) := H
                          have A24 := Aside0.mk A240
                          clear A240
                          have H' := Aside0.mk H
                          clear H
                          go_wp2_with (first | ((with_reducible refine gate_callee (f := 21) rfl ?_); refine goesL_ (some 40) rfl rfl Tryd.func21 (by kernel_rfl) rfl #[.string zc1, .int .u8 58] rfl (by (try simp only [List.map_toArray, List.map_cons, List.map_nil]); first | done | rfl | (simp only [List.length_drop, List.length_take]; rfl)) ?_; (with_reducible refine (estafetteref01_find.calls kj14 zc1 58 t163 _ A20.out).mono ?_); rintro e w' ⟨rfl, ⟨nd, rfl⟩⟩; refine ⟨_, rfl, ?_⟩) | ((with_reducible refine gate_callee (f := 28) rfl ?_); refine goesL_ (some 46) rfl rfl Tryd.func28 (by kernel_rfl) rfl #[.string (zc1.extract 0 (t163 : Int).toNat), .int .u8 44] rfl (by (try simp only [List.map_toArray, List.map_cons, List.map_nil]); first | done | rfl | (simp only [List.length_drop, List.length_take]; rfl)) ?_; (with_reducible refine (estafetteref01_Cut.calls kj14 (zc1.extract 0 (t163 : Int).toNat) 44 t164 _ A24.out).mono ?_); rintro e w25 ⟨v165, rfl, ho0, hb⟩; refine ⟨_, rfl, ?_⟩; have n0_ := Aside0.mk (Kd.R_lower ho0 (below_size (by repeat (first | (with_reducible first | exact HB.out | apply below_alloc | apply pw_below_drewN | apply below_drew1) | exact HB.out)))); have n1_ := Aside0.mk (below_step (by repeat (first | (with_reducible first | exact HB.out | apply below_alloc | apply pw_below_drewN | apply below_drew1) | exact HB.out)) hb); clear HB; have HO166 := n0_; have HB := n1_; clear n0_ n1_; (try clear hb); (try clear hb2); (try clear hk); (try clear hi); (try clear ho0)))
                          go_loopg [7] kj14 (fun kq v7 w' => ∃ (x7_3 : Int), v7 = .int .i64 x7_3 ∧ Aside0 (estafetteref01_Path.l0 kq zc1 t163 t164 x7_3 = some (r1, r2)) ∧ Aside0 (kq ≤ kj14) ∧ Aside0 (Kd.R Kd.string 9 w' w.heap.size (fun _ => True) v165 t164) ∧ Aside0 (Below w.heap.size w w'))
                          case atStart => exact ⟨(0), (by first | rfl | (simp; done) | (simp [*]; done)), H', ⟨Nat.le_refl _⟩, ⟨by (with_reducible repeat (first | apply Kd.R_alloc | apply Kd.R_drewN | apply Kd.R_drew)); exact HO166.out⟩, ⟨by repeat (first | (with_reducible first | exact HB.out | apply below_alloc | apply pw_below_drewN | apply below_drew1) | exact HB.out)⟩⟩
                          case round =>
                            clear H'
                            try clear c1
                            try clear p1
                            try clear q1
                            try clear hx1
                            try clear qi1
                            try clear c2
                            try clear c2b0
                            try clear c2b1
                            try clear p2
                            try clear c4
                            try clear c4b0
                            try clear c4b1
                            try clear c5
                            try clear c5b0
                            try clear c5b1
                            try clear p6
                            try clear q6
                            try clear hx6
                            try clear qi6
                            try clear c7
                            try clear c7b0
                            try clear c7b1
                            try clear c9
                            try clear c9b0
                            try clear c10
                            try clear c10b0
                            try clear p11
                            try clear q11
                            try clear hx11
                            try clear c12
                            try clear c13
                            try clear c13b0
                            try clear c13b1
                            try clear c14
                            try clear c14b0
                            try clear c14b1
                            try clear c16
                            try clear c16b0
                            try clear c16b1
                            try clear c17
                            try clear c17b0
                            try clear c17b1
                            try clear c18
                            try clear p18
                            try clear q18
                            try clear hx18
                            try clear qi18
                            try clear c19
                            try clear c21
                            try clear c21b0
                            try clear c22
                            try clear c22b0
                            try clear c22b1
                            try clear c23
                            try clear c23b0
                            try clear c23b1
                            try clear p1
                            try clear p11
                            try clear p18
                            try clear p2
                            try clear p6
                            try clear q1
                            try clear q11
                            try clear q18
                            try clear q6
                            obtain ⟨x7_3, rfl, HA, HK3, HO_6, HB⟩ := hrel
                            cases gk with
                            | zero => exact absurd HA.out (by simp [estafetteref01_Path.l0])
                            | succ k3 =>
                              have H := HA.out
                              clear HA
                              simp only [estafetteref01_Path.l0] at H
                              by_cases c26 : x7_3 < (t164.length : Int)
                              · rw [if_pos c26] at H
                                have c26b0 : decide (x7_3 < (t164.length : Int)) = true := decide_eq_true c26
                                clear c26
                                by_cases c27 : 0 ≤ x7_3
                                · rw [if_pos c27] at H
                                  have c27b0 : decide (0 ≤ x7_3) = true := decide_eq_true c27
                                  clear c27
                                  by_cases c28 : ((rdOf ByteArray.empty t164 x7_3).size : Int) = 0
                                  · rw [if_pos c28] at H
                                    have c28b0 : (((rdOf ByteArray.empty t164 x7_3).size : Int) == 0) = true := beq_iff_eq.mpr c28
                                    have c28b1 : (((rdOf ByteArray.empty t164 x7_3).size : Int) != 0) = false := bne_eq_false_iff_eq.mpr c28
                                    clear c28
                                    simp only [Option.some.injEq, Prod.mk.injEq] at H
                                    obtain ⟨rfl, rfl⟩ := H
                                    obtain ⟨Ao29, co29, eo29⟩ := Kd.R_slice HO_6.out
                                    subst eo29
                                    have p167 : 0 ≤ (x7_3 : Int) := of_decide_eq_true (by first | (with_reducible assumption) | assumption)
                                    have q167 : x7_3 < (t164.length : Int) := of_decide_eq_true (by first | (with_reducible assumption) | assumption)
                                    obtain ⟨ad167, e167, hx167_0⟩ := Kd.at_string (Kd.R_reads' HO_6.out).2.2 x7_3 p167 q167
                                    cases e167
                                    replace p167 := eq_true p167
                                    replace q167 := eq_true q167
                                    go_wp2
                                    go_ret2
                                    exact ⟨by first | rfl | (simp [errW_none, errW_some] <;> rfl) | (simp [*, errW_none, errW_some] <;> rfl), by repeat (first | (with_reducible first | exact HB.out | apply below_alloc | apply pw_below_drewN | apply below_drew1) | exact HB.out)⟩
                                  · rw [if_neg c28] at H
                                    have c28b0 : (((rdOf ByteArray.empty t164 x7_3).size : Int) == 0) = false := beq_eq_false_iff_ne.mpr c28
                                    have c28b1 : (((rdOf ByteArray.empty t164 x7_3).size : Int) != 0) = true := bne_iff_ne.mpr c28
                                    by_cases c30 : 0 < ((rdOf ByteArray.empty t164 x7_3).size : Int)
                                    · rw [if_pos c30] at H
                                      have c30b0 : decide (0 < ((rdOf ByteArray.empty t164 x7_3).size : Int)) = true := decide_eq_true c30
                                      have c30b1 : decide (0 < (rdOf ByteArray.empty t164 x7_3).size) = true := decide_eq_true (by omega)
                                      clear c30
                                      by_cases c32 : (bt (rdOf ByteArray.empty t164 x7_3) 0) = 64
                                      · rw [if_pos c32] at H
                                        have c32b0 : ((bt (rdOf ByteArray.empty t164 x7_3) 0) == 64) = true := beq_iff_eq.mpr c32
                                        have c32b1 : ((bt (rdOf ByteArray.empty t164 x7_3) 0) != 64) = false := bne_eq_false_iff_eq.mpr c32
                                        clear c32
                                        by_cases c33 : 1 ≤ ((rdOf ByteArray.empty t164 x7_3).size : Int)
                                        · rw [if_pos c33] at H
                                          have c33b0 := eq_true c33
                                          have c33b1 : decide (1 ≤ ((rdOf ByteArray.empty t164 x7_3).size : Int)) = true := decide_eq_true c33
                                          clear c33
                                          replace H := Option.bind_eq_some_iff.mp H
                                          obtain ⟨t170, A340, H⟩ := H
                                          replace H : (if t170 = true then (estafetteref01_Path.l0 k3 zc1 t163 t164 (wrap64 (x7_3 + 1))) else (some ((⟨#[]⟩ : ByteArray), false))) = some (r1, r2) := H
                                          have A34 := Aside0.mk A340
                                          clear A340
                                          by_cases c35 : t170 = true
                                          · subst c35
                                            have H1 : (estafetteref01_Path.l0 k3 zc1 t163 t164 (wrap64 (x7_3 + 1))) = some (r1, r2) := by rw [if_pos rfl] at H; exact H
                                            clear H
                                            have H := H1
                                            clear H1
                                            have H' := Aside0.mk H
                                            clear H
                                            obtain ⟨Ao36, co36, eo36⟩ := Kd.R_slice HO_6.out
                                            subst eo36
                                            have p167 : 0 ≤ (x7_3 : Int) := of_decide_eq_true (by first | (with_reducible assumption) | assumption)
                                            have q167 : x7_3 < (t164.length : Int) := of_decide_eq_true (by first | (with_reducible assumption) | assumption)
                                            obtain ⟨ad167, e167, hx167_0⟩ := Kd.at_string (Kd.R_reads' HO_6.out).2.2 x7_3 p167 q167
                                            cases e167
                                            replace p167 := eq_true p167
                                            replace q167 := eq_true q167
                                            have p168 : 0 ≤ (x7_3 : Int) := of_decide_eq_true (by first | (with_reducible assumption) | assumption)
                                            have q168 : x7_3 < (t164.length : Int) := of_decide_eq_true (by first | (with_reducible assumption) | assumption)
                                            obtain ⟨ad168, e168, hx168_0⟩ := Kd.at_string (Kd.R_reads' HO_6.out).2.2 x7_3 p168 q168
                                            obtain rfl : ad167 = ad168 := (by injection e168)
                                            replace p168 := eq_true p168
                                            replace q168 := eq_true q168
                                            have p31 : 0 ≤ (0 : Int) := (by omega)
                                            have q31 : 0 < (rdOf ByteArray.empty t164 x7_3).size := (by have : (0 : Int) < ((rdOf ByteArray.empty t164 x7_3).size : Int) := of_decide_eq_true (by first | (with_reducible assumption) | assumption); omega)
                                            have hx31 : ∀ h : 0 < (rdOf ByteArray.empty t164 x7_3).size, (((rdOf ByteArray.empty t164 x7_3)[0]'h).toNat : Int) = bt (rdOf ByteArray.empty t164 x7_3) 0 := bt_at (rdOf ByteArray.empty t164 x7_3) 0
                                            clear p31
                                            have qi31 : (0 < ((rdOf ByteArray.empty t164 x7_3).size : Int)) = True := eq_true (of_decide_eq_true (by first | (with_reducible assumption) | assumption))
                                            replace q31 := eq_true q31
                                            have p169 : 0 ≤ (x7_3 : Int) := of_decide_eq_true (by first | (with_reducible assumption) | assumption)
                                            have q169 : x7_3 < (t164.length : Int) := of_decide_eq_true (by first | (with_reducible assumption) | assumption)
                                            obtain ⟨ad169, e169, hx169_0⟩ := Kd.at_string (Kd.R_reads' HO_6.out).2.2 x7_3 p169 q169
                                            obtain rfl : ad167 = ad169 := (by injection e169)
                                            replace p169 := eq_true p169
                                            replace q169 := eq_true q169
                                            go_wp2_with (first | (go_at_call 16; (with_reducible refine (estafetteref01_Domain.calls k3 ((rdOf ByteArray.empty t164 x7_3).extract 1 (rdOf ByteArray.empty t164 x7_3).size) true _ A34.out).mono ?_); rintro e w37 ⟨rfl, hb⟩; have n0_ := Aside0.mk (Kd.R_below (by (with_reducible repeat (first | apply Kd.R_alloc | apply Kd.R_drewN | apply Kd.R_drew)); exact HO_6.out) hb); have n1_ := Aside0.mk (below_step (by repeat (first | (with_reducible first | exact HB.out | apply below_alloc | apply pw_below_drewN | apply below_drew1) | exact HB.out)) hb); clear HO_6; clear HB; have HO_6 := n0_; have HB := n1_; clear n0_ n1_; (try clear hb); (try clear hb2); (try clear hk); (try clear hi)))
                                            go_roundg k3
                                            case measure => have := HJ2.out; have := HJ14.out; have := HK3.out; omega
                                            case rel => exact ⟨(wrap64 (x7_3 + 1)), (by first | rfl | (simp; done) | (simp [*]; done)), H', ⟨by have := HJ2.out; have := HJ14.out; have := HK3.out; omega⟩, ⟨by (with_reducible repeat (first | apply Kd.R_alloc | apply Kd.R_drewN | apply Kd.R_drew)); exact HO_6.out⟩, ⟨by repeat (first | (with_reducible first | exact HB.out | apply below_alloc | apply pw_below_drewN | apply below_drew1) | exact HB.out)⟩⟩
                                          · replace c35 := Bool.eq_false_iff.mpr c35
                                            subst c35
                                            have H1 : (some ((⟨#[]⟩ : ByteArray), false)) = some (r1, r2) := by rw [if_neg (show ¬ (false = true) by decide)] at H; exact H
                                            clear H
                                            have H := H1
                                            clear H1
                                            simp only [Option.some.injEq, Prod.mk.injEq] at H
                                            obtain ⟨rfl, rfl⟩ := H
                                            obtain ⟨Ao38, co38, eo38⟩ := Kd.R_slice HO_6.out
                                            subst eo38
                                            have p167 : 0 ≤ (x7_3 : Int) := of_decide_eq_true (by first | (with_reducible assumption) | assumption)
                                            have q167 : x7_3 < (t164.length : Int) := of_decide_eq_true (by first | (with_reducible assumption) | assumption)
                                            obtain ⟨ad167, e167, hx167_0⟩ := Kd.at_string (Kd.R_reads' HO_6.out).2.2 x7_3 p167 q167
                                            cases e167
                                            replace p167 := eq_true p167
                                            replace q167 := eq_true q167
                                            have p168 : 0 ≤ (x7_3 : Int) := of_decide_eq_true (by first | (with_reducible assumption) | assumption)
                                            have q168 : x7_3 < (t164.length : Int) := of_decide_eq_true (by first | (with_reducible assumption) | assumption)
                                            obtain ⟨ad168, e168, hx168_0⟩ := Kd.at_string (Kd.R_reads' HO_6.out).2.2 x7_3 p168 q168
                                            obtain rfl : ad167 = ad168 := (by injection e168)
                                            replace p168 := eq_true p168
                                            replace q168 := eq_true q168
                                            have p31 : 0 ≤ (0 : Int) := (by omega)
                                            have q31 : 0 < (rdOf ByteArray.empty t164 x7_3).size := (by have : (0 : Int) < ((rdOf ByteArray.empty t164 x7_3).size : Int) := of_decide_eq_true (by first | (with_reducible assumption) | assumption); omega)
                                            have hx31 : ∀ h : 0 < (rdOf ByteArray.empty t164 x7_3).size, (((rdOf ByteArray.empty t164 x7_3)[0]'h).toNat : Int) = bt (rdOf ByteArray.empty t164 x7_3) 0 := bt_at (rdOf ByteArray.empty t164 x7_3) 0
                                            clear p31
                                            have qi31 : (0 < ((rdOf ByteArray.empty t164 x7_3).size : Int)) = True := eq_true (of_decide_eq_true (by first | (with_reducible assumption) | assumption))
                                            replace q31 := eq_true q31
                                            have p169 : 0 ≤ (x7_3 : Int) := of_decide_eq_true (by first | (with_reducible assumption) | assumption)
                                            have q169 : x7_3 < (t164.length : Int) := of_decide_eq_true (by first | (with_reducible assumption) | assumption)
                                            obtain ⟨ad169, e169, hx169_0⟩ := Kd.at_string (Kd.R_reads' HO_6.out).2.2 x7_3 p169 q169
                                            obtain rfl : ad167 = ad169 := (by injection e169)
                                            replace p169 := eq_true p169
                                            replace q169 := eq_true q169
                                            go_wp2_with (first | (go_at_call 16; (with_reducible refine (estafetteref01_Domain.calls k3 ((rdOf ByteArray.empty t164 x7_3).extract 1 (rdOf ByteArray.empty t164 x7_3).size) false _ A34.out).mono ?_); rintro e w39 ⟨rfl, hb⟩; have n0_ := Aside0.mk (Kd.R_below (by (with_reducible repeat (first | apply Kd.R_alloc | apply Kd.R_drewN | apply Kd.R_drew)); exact HO_6.out) hb); have n1_ := Aside0.mk (below_step (by repeat (first | (with_reducible first | exact HB.out | apply below_alloc | apply pw_below_drewN | apply below_drew1) | exact HB.out)) hb); clear HO_6; clear HB; have HO_6 := n0_; have HB := n1_; clear n0_ n1_; (try clear hb); (try clear hb2); (try clear hk); (try clear hi)))
                                            go_ret2
                                            exact ⟨by first | rfl | (simp [errW_none, errW_some] <;> rfl) | (simp [*, errW_none, errW_some] <;> rfl), by repeat (first | (with_reducible first | exact HB.out | apply below_alloc | apply pw_below_drewN | apply below_drew1) | exact HB.out)⟩
                                        · rw [if_neg c33] at H
                                          exact absurd H (by simp)
                                      · rw [if_neg c32] at H
                                        have c32b0 : ((bt (rdOf ByteArray.empty t164 x7_3) 0) == 64) = false := beq_eq_false_iff_ne.mpr c32
                                        have c32b1 : ((bt (rdOf ByteArray.empty t164 x7_3) 0) != 64) = true := bne_iff_ne.mpr c32
                                        simp only [Option.some.injEq, Prod.mk.injEq] at H
                                        obtain ⟨rfl, rfl⟩ := H
                                        obtain ⟨Ao40, co40, eo40⟩ := Kd.R_slice HO_6.out
                                        subst eo40
                                        have p167 : 0 ≤ (x7_3 : Int) := of_decide_eq_true (by first | (with_reducible assumption) | assumption)
                                        have q167 : x7_3 < (t164.length : Int) := of_decide_eq_true (by first | (with_reducible assumption) | assumption)
                                        obtain ⟨ad167, e167, hx167_0⟩ := Kd.at_string (Kd.R_reads' HO_6.out).2.2 x7_3 p167 q167
                                        cases e167
                                        replace p167 := eq_true p167
                                        replace q167 := eq_true q167
                                        have p168 : 0 ≤ (x7_3 : Int) := of_decide_eq_true (by first | (with_reducible assumption) | assumption)
                                        have q168 : x7_3 < (t164.length : Int) := of_decide_eq_true (by first | (with_reducible assumption) | assumption)
                                        obtain ⟨ad168, e168, hx168_0⟩ := Kd.at_string (Kd.R_reads' HO_6.out).2.2 x7_3 p168 q168
                                        obtain rfl : ad167 = ad168 := (by injection e168)
                                        replace p168 := eq_true p168
                                        replace q168 := eq_true q168
                                        have p31 : 0 ≤ (0 : Int) := (by omega)
                                        have q31 : 0 < (rdOf ByteArray.empty t164 x7_3).size := (by have : (0 : Int) < ((rdOf ByteArray.empty t164 x7_3).size : Int) := of_decide_eq_true (by first | (with_reducible assumption) | assumption); omega)
                                        have hx31 : ∀ h : 0 < (rdOf ByteArray.empty t164 x7_3).size, (((rdOf ByteArray.empty t164 x7_3)[0]'h).toNat : Int) = bt (rdOf ByteArray.empty t164 x7_3) 0 := bt_at (rdOf ByteArray.empty t164 x7_3) 0
                                        clear p31
                                        have qi31 : (0 < ((rdOf ByteArray.empty t164 x7_3).size : Int)) = True := eq_true (of_decide_eq_true (by first | (with_reducible assumption) | assumption))
                                        replace q31 := eq_true q31
                                        go_wp2
                                        go_ret2
                                        exact ⟨by first | rfl | (simp [errW_none, errW_some] <;> rfl) | (simp [*, errW_none, errW_some] <;> rfl), by repeat (first | (with_reducible first | exact HB.out | apply below_alloc | apply pw_below_drewN | apply below_drew1) | exact HB.out)⟩
                                    · rw [if_neg c30] at H
                                      exact absurd H (by simp)
                                · rw [if_neg c27] at H
                                  exact absurd H (by simp)
                              · rw [if_neg c26] at H
                                have c26b0 : decide (x7_3 < (t164.length : Int)) = false := decide_eq_false c26
                                clear c26
                                obtain ⟨ji41, hji41⟩ : ∃ j_ : Int, (wrap64 (t163 + 1)) = j_ := ⟨_, rfl⟩
                                replace H : (if 0 ≤ (ji41) then (if (ji41) ≤ (zc1.size : Int) then ((estafetteref01_Canon.f k3 (zc1.extract ((ji41) : Int).toNat zc1.size)).bind fun bt171 => (some (bt171.1, bt171.2))) else (none)) else (none)) = some (r1, r2) := by first | (rw [hji41] at H; exact H) | (simp only [hji41] at H ⊢; exact H)
                                have hji41w : (IntKind.i64.wrap (t163 + 1)) = ji41 := (i64_w _).trans hji41
                                by_cases c42 : 0 ≤ (ji41)
                                · rw [if_pos c42] at H
                                  have c42b0 := eq_true c42
                                  have c42b1 : decide (0 ≤ (ji41)) = true := decide_eq_true c42
                                  clear c42
                                  by_cases c43 : (ji41) ≤ (zc1.size : Int)
                                  · rw [if_pos c43] at H
                                    have c43b0 := eq_true c43
                                    have c43b1 : decide ((ji41) ≤ (zc1.size : Int)) = true := decide_eq_true c43
                                    (try (have c43r := c43; rw [ByteArray.size_extract, Nat.min_eq_left (by omega)] at c43r; have c43s := eq_false (Nat.not_lt.2 c43r)))
                                    clear c43
                                    replace H := Option.bind_eq_some_iff.mp H
                                    obtain ⟨⟨t171, t172⟩, A440, H⟩ := H
                                    replace H : (some (t171, t172)) = some (r1, r2) := H
                                    have A44 := Aside0.mk A440
                                    clear A440
                                    simp only [Option.some.injEq, Prod.mk.injEq] at H
                                    obtain ⟨rfl, rfl⟩ := H
                                    obtain ⟨Ao45, co45, eo45⟩ := Kd.R_slice HO_6.out
                                    subst eo45
                                    go_wp2_with (first | ((with_reducible refine gate_callee (f := 12) rfl ?_); refine goesL_ (some 81) rfl rfl Tryd.func12 (by kernel_rfl) rfl #[.string (zc1.extract ((ji41) : Int).toNat zc1.size)] rfl (by (try simp only [List.map_toArray, List.map_cons, List.map_nil]); first | done | (simp only [hji41]; rfl) | rfl | (simp only [List.length_drop, List.length_take]; rfl)) ?_; (with_reducible refine (estafetteref01_Canon.calls k3 (zc1.extract ((ji41) : Int).toNat zc1.size) t171 t172 _ A44.out).mono ?_); rintro e w46 ⟨rfl, hb⟩; refine ⟨_, rfl, ?_⟩; have n0_ := Aside0.mk (Kd.R_below (by (with_reducible repeat (first | apply Kd.R_alloc | apply Kd.R_drewN | apply Kd.R_drew)); exact HO_6.out) hb); have n1_ := Aside0.mk (below_step (by repeat (first | (with_reducible first | exact HB.out | apply below_alloc | apply pw_below_drewN | apply below_drew1) | exact HB.out)) hb); clear HO_6; clear HB; have HO_6 := n0_; have HB := n1_; clear n0_ n1_; (try clear hb); (try clear hb2); (try clear hk); (try clear hi)))
                                    go_ret2
                                    exact ⟨by first | rfl | (simp [errW_none, errW_some] <;> rfl) | (simp only [← hji41]; first | rfl | (simp [errW_none, errW_some] <;> rfl)) | (simp [*, errW_none, errW_some] <;> rfl), by repeat (first | (with_reducible first | exact HB.out | apply below_alloc | apply pw_below_drewN | apply below_drew1) | exact HB.out)⟩
                                  · rw [if_neg c43] at H
                                    exact absurd H (by simp)
                                · rw [if_neg c42] at H
                                  exact absurd H (by simp)
                        · rw [if_neg c23] at H
                          exact absurd H (by simp)
                      · rw [if_neg c22] at H
                        exact absurd H (by simp)
                  · replace c19 := Bool.eq_false_iff.mpr c19
                    subst c19
                    have H1 : ((estafetteref01_Canon.f kj14 zc1).bind fun bt173 => (some (bt173.1, bt173.2))) = some (r1, r2) := by rw [if_neg (show ¬ (false = true) by decide)] at H; exact H
                    clear H
                    have H := H1
                    clear H1
                    replace H := Option.bind_eq_some_iff.mp H
                    obtain ⟨⟨t173, t174⟩, A470, H⟩ := H
                    replace H : (some (t173, t174)) = some (r1, r2) := H
                    have A47 := Aside0.mk A470
                    clear A470
                    simp only [Option.some.injEq, Prod.mk.injEq] at H
                    obtain ⟨rfl, rfl⟩ := H
                    go_wp2_with (first | ((with_reducible refine gate_callee (f := 12) rfl ?_); refine goesL_ (some 81) rfl rfl Tryd.func12 (by kernel_rfl) rfl #[.string zc1] rfl (by (try simp only [List.map_toArray, List.map_cons, List.map_nil]); first | done | rfl | (simp only [List.length_drop, List.length_take]; rfl)) ?_; (with_reducible refine (estafetteref01_Canon.calls kj14 zc1 t173 t174 _ A47.out).mono ?_); rintro e w48 ⟨rfl, hb⟩; refine ⟨_, rfl, ?_⟩; have n0_ := Aside0.mk (below_step (by repeat (first | (with_reducible first | exact HB.out | apply below_alloc | apply pw_below_drewN | apply below_drew1) | exact HB.out)) hb); clear HB; have HB := n0_; clear n0_; (try clear hb); (try clear hb2); (try clear hk); (try clear hi)))
                    go_ret2
                    exact ⟨by first | rfl | (simp [errW_none, errW_some] <;> rfl) | (simp [*, errW_none, errW_some] <;> rfl), by repeat (first | (with_reducible first | exact HB.out | apply below_alloc | apply pw_below_drewN | apply below_drew1) | exact HB.out)⟩
            · rw [if_neg c14] at H
              exact absurd H (by simp)
          · rw [if_neg c13] at H
            exact absurd H (by simp)

/-! ### estafettelaw01_AddrPaths: function 4 -/
def estafettelaw01_AddrPaths.f (k : Nat) (a0 : ByteArray) : Option (Bool) := if (a0.size : Int) > 1500 then ((estafettelaw01_answers.f k).bind fun t175 => (some t175)) else ((addr_Path.f k a0).bind fun bt176 => ((estafetteref01_Path.f k a0).bind fun bt178 => ((estafettelaw01_answers.f k).bind fun t180 => (if t180 = true then (if bt176.1.toList = bt178.1.toList then (some (bt176.2 == bt178.2)) else (some false)) else (some false)))))
theorem estafettelaw01_AddrPaths.mono : ∀ a0 k, LeO (estafettelaw01_AddrPaths.f k a0) (estafettelaw01_AddrPaths.f (k + 1) a0) := by
  intro a0 k
  unfold estafettelaw01_AddrPaths.f
  repeat' first
      | (with_reducible exact addr_Path.mono _ _)
      | (with_reducible exact estafettelaw01_answers.mono _)
      | (with_reducible exact estafetteref01_Path.mono _ _)
      | (with_reducible exact LeO.refl _)
      | (with_reducible exact LeO.none _)
      | (with_reducible refine LeO.ite ?_ ?_)
      | (with_reducible refine LeO.bind ?_ (fun _ => ?_))
      | exact addr_Path.mono _ _
      | exact estafettelaw01_answers.mono _
      | exact estafetteref01_Path.mono _ _
      | exact LeO.none _
      | refine LeO.ite ?_ ?_
      | refine LeO.bind ?_ (fun _ => ?_)
set_option maxHeartbeats 8000000 in
set_option maxRecDepth 100000 in
theorem estafettelaw01_AddrPaths.calls (k : Nat) (a0 : ByteArray) (r : Bool) (w : World) (h : estafettelaw01_AddrPaths.f k a0 = some r) :
    Calls Tryd.prog 4 #[.string a0] w fun e w' => e = .returned (.bool r) ∧ Below w.heap.size w w' := by
  have HB := Aside0.mk (Below.refl w.heap.size w)
  have H : (if (a0.size : Int) > 1500 then ((estafettelaw01_answers.f k).bind fun t175 => (some t175)) else ((addr_Path.f k a0).bind fun bt176 => ((estafetteref01_Path.f k a0).bind fun bt178 => ((estafettelaw01_answers.f k).bind fun t180 => (if t180 = true then (if bt176.1.toList = bt178.1.toList then (some (bt176.2 == bt178.2)) else (some false)) else (some false)))))) = some r := h
  clear h
  by_cases c2 : (a0.size : Int) > 1500
  · rw [if_pos c2] at H
    have c2b0 : decide (1500 < (a0.size : Int)) = true := decide_eq_true c2
    have c2b1 : decide (1500 < a0.size) = true := decide_eq_true (by omega)
    clear c2
    replace H := Option.bind_eq_some_iff.mp H
    obtain ⟨t175, A30, H⟩ := H
    replace H : (some t175) = some r := H
    have A3 := Aside0.mk A30
    clear A30
    obtain rfl := Option.some.inj H
    go_enter Tryd.func4, Tryd.ntmps4
    go_wp2_with (first | ((with_reducible refine gate_callee (f := 8) rfl ?_); refine goesL_ (some 10) rfl rfl Tryd.func8 (by kernel_rfl) rfl #[] rfl (by (try simp only [List.map_toArray, List.map_cons, List.map_nil]); first | done | rfl | (simp only [List.length_drop, List.length_take]; rfl)) ?_; (with_reducible refine (estafettelaw01_answers.calls k  t175 _ A3.out).mono ?_); rintro e w4 ⟨rfl, hb⟩; refine ⟨_, rfl, ?_⟩; have n0_ := Aside0.mk (below_step (by repeat (first | (with_reducible first | exact HB.out | apply below_alloc | apply pw_below_drewN | apply below_drew1) | exact HB.out)) hb); clear HB; have HB := n0_; clear n0_; (try clear hb); (try clear hb2); (try clear hk); (try clear hi)))
    go_ret
    exact ⟨by first | rfl | (simp [errW_none, errW_some] <;> rfl) | (simp [*, errW_none, errW_some] <;> rfl), by repeat (first | (with_reducible first | exact HB.out | apply below_alloc | apply pw_below_drewN | apply below_drew1) | exact HB.out)⟩
  · rw [if_neg c2] at H
    have c2b0 : decide (1500 < (a0.size : Int)) = false := decide_eq_false c2
    have c2b1 : decide (1500 < a0.size) = false := decide_eq_false (by omega)
    clear c2
    replace H := Option.bind_eq_some_iff.mp H
    obtain ⟨⟨t176, t177⟩, A50, H⟩ := H
    replace H : ((estafetteref01_Path.f k a0).bind fun bt178 => ((estafettelaw01_answers.f k).bind fun t180 => (if t180 = true then (if t176.toList = bt178.1.toList then (some (t177 == bt178.2)) else (some false)) else (some false)))) = some r := H
    have A5 := Aside0.mk A50
    clear A50
    replace H := Option.bind_eq_some_iff.mp H
    obtain ⟨⟨t178, t179⟩, A60, H⟩ := H
    replace H : ((estafettelaw01_answers.f k).bind fun t180 => (if t180 = true then (if t176.toList = t178.toList then (some (t177 == t179)) else (some false)) else (some false))) = some r := H
    have A6 := Aside0.mk A60
    clear A60
    replace H := Option.bind_eq_some_iff.mp H
    obtain ⟨t180, A70, H⟩ := H
    replace H : (if t180 = true then (if t176.toList = t178.toList then (some (t177 == t179)) else (some false)) else (some false)) = some r := H
    have A7 := Aside0.mk A70
    clear A70
    by_cases c8 : t180 = true
    · subst c8
      have H1 : (if t176.toList = t178.toList then (some (t177 == t179)) else (some false)) = some r := by rw [if_pos rfl] at H; exact H
      clear H
      have H := H1
      clear H1
      by_cases c9 : t176.toList = t178.toList
      · rw [if_pos c9] at H
        have c9b0 : (t176.toList == t178.toList) = true := beq_iff_eq.mpr c9
        have c9b1 : (t176.toList != t178.toList) = false := bne_eq_false_iff_eq.mpr c9
        clear c9
        obtain rfl := Option.some.inj H
        go_enter Tryd.func4, Tryd.ntmps4
        go_wp2_with (first | ((with_reducible refine gate_callee (f := 17) rfl ?_); refine goesL_ (some 13) rfl rfl Tryd.func17 (by kernel_rfl) rfl #[.string a0] rfl (by (try simp only [List.map_toArray, List.map_cons, List.map_nil]); first | done | rfl | (simp only [List.length_drop, List.length_take]; rfl)) ?_; (with_reducible refine (addr_Path.calls k a0 t176 t177 _ A5.out).mono ?_); rintro e w10 ⟨rfl, hb⟩; refine ⟨_, rfl, ?_⟩; have n0_ := Aside0.mk (below_step (by repeat (first | (with_reducible first | exact HB.out | apply below_alloc | apply pw_below_drewN | apply below_drew1) | exact HB.out)) hb); clear HB; have HB := n0_; clear n0_; (try clear hb); (try clear hb2); (try clear hk); (try clear hi)) | ((with_reducible refine gate_callee (f := 18) rfl ?_); refine goesL_ (some 18) rfl rfl Tryd.func18 (by kernel_rfl) rfl #[.string a0] rfl (by (try simp only [List.map_toArray, List.map_cons, List.map_nil]); first | done | rfl | (simp only [List.length_drop, List.length_take]; rfl)) ?_; (with_reducible refine (estafetteref01_Path.calls k a0 t178 t179 _ A6.out).mono ?_); rintro e w11 ⟨rfl, hb⟩; refine ⟨_, rfl, ?_⟩; have n0_ := Aside0.mk (below_step (by repeat (first | (with_reducible first | exact HB.out | apply below_alloc | apply pw_below_drewN | apply below_drew1) | exact HB.out)) hb); clear HB; have HB := n0_; clear n0_; (try clear hb); (try clear hb2); (try clear hk); (try clear hi)) | ((with_reducible refine gate_callee (f := 8) rfl ?_); refine goesL_ (some 21) rfl rfl Tryd.func8 (by kernel_rfl) rfl #[] rfl (by (try simp only [List.map_toArray, List.map_cons, List.map_nil]); first | done | rfl | (simp only [List.length_drop, List.length_take]; rfl)) ?_; (with_reducible refine (estafettelaw01_answers.calls k  true _ A7.out).mono ?_); rintro e w12 ⟨rfl, hb⟩; refine ⟨_, rfl, ?_⟩; have n0_ := Aside0.mk (below_step (by repeat (first | (with_reducible first | exact HB.out | apply below_alloc | apply pw_below_drewN | apply below_drew1) | exact HB.out)) hb); clear HB; have HB := n0_; clear n0_; (try clear hb); (try clear hb2); (try clear hk); (try clear hi)))
        go_ret
        exact ⟨by first | rfl | (simp [errW_none, errW_some] <;> rfl) | (simp [*, errW_none, errW_some] <;> rfl), by repeat (first | (with_reducible first | exact HB.out | apply below_alloc | apply pw_below_drewN | apply below_drew1) | exact HB.out)⟩
      · rw [if_neg c9] at H
        have c9b0 : (t176.toList == t178.toList) = false := beq_eq_false_iff_ne.mpr c9
        have c9b1 : (t176.toList != t178.toList) = true := bne_iff_ne.mpr c9
        obtain rfl := Option.some.inj H
        go_enter Tryd.func4, Tryd.ntmps4
        go_wp2_with (first | ((with_reducible refine gate_callee (f := 17) rfl ?_); refine goesL_ (some 13) rfl rfl Tryd.func17 (by kernel_rfl) rfl #[.string a0] rfl (by (try simp only [List.map_toArray, List.map_cons, List.map_nil]); first | done | rfl | (simp only [List.length_drop, List.length_take]; rfl)) ?_; (with_reducible refine (addr_Path.calls k a0 t176 t177 _ A5.out).mono ?_); rintro e w13 ⟨rfl, hb⟩; refine ⟨_, rfl, ?_⟩; have n0_ := Aside0.mk (below_step (by repeat (first | (with_reducible first | exact HB.out | apply below_alloc | apply pw_below_drewN | apply below_drew1) | exact HB.out)) hb); clear HB; have HB := n0_; clear n0_; (try clear hb); (try clear hb2); (try clear hk); (try clear hi)) | ((with_reducible refine gate_callee (f := 18) rfl ?_); refine goesL_ (some 18) rfl rfl Tryd.func18 (by kernel_rfl) rfl #[.string a0] rfl (by (try simp only [List.map_toArray, List.map_cons, List.map_nil]); first | done | rfl | (simp only [List.length_drop, List.length_take]; rfl)) ?_; (with_reducible refine (estafetteref01_Path.calls k a0 t178 t179 _ A6.out).mono ?_); rintro e w14 ⟨rfl, hb⟩; refine ⟨_, rfl, ?_⟩; have n0_ := Aside0.mk (below_step (by repeat (first | (with_reducible first | exact HB.out | apply below_alloc | apply pw_below_drewN | apply below_drew1) | exact HB.out)) hb); clear HB; have HB := n0_; clear n0_; (try clear hb); (try clear hb2); (try clear hk); (try clear hi)) | ((with_reducible refine gate_callee (f := 8) rfl ?_); refine goesL_ (some 21) rfl rfl Tryd.func8 (by kernel_rfl) rfl #[] rfl (by (try simp only [List.map_toArray, List.map_cons, List.map_nil]); first | done | rfl | (simp only [List.length_drop, List.length_take]; rfl)) ?_; (with_reducible refine (estafettelaw01_answers.calls k  true _ A7.out).mono ?_); rintro e w15 ⟨rfl, hb⟩; refine ⟨_, rfl, ?_⟩; have n0_ := Aside0.mk (below_step (by repeat (first | (with_reducible first | exact HB.out | apply below_alloc | apply pw_below_drewN | apply below_drew1) | exact HB.out)) hb); clear HB; have HB := n0_; clear n0_; (try clear hb); (try clear hb2); (try clear hk); (try clear hi)))
        go_ret
        exact ⟨by first | rfl | (simp [errW_none, errW_some] <;> rfl) | (simp [*, errW_none, errW_some] <;> rfl), by repeat (first | (with_reducible first | exact HB.out | apply below_alloc | apply pw_below_drewN | apply below_drew1) | exact HB.out)⟩
    · replace c8 := Bool.eq_false_iff.mpr c8
      subst c8
      have H1 : (some false) = some r := by rw [if_neg (show ¬ (false = true) by decide)] at H; exact H
      clear H
      have H := H1
      clear H1
      obtain rfl := Option.some.inj H
      go_enter Tryd.func4, Tryd.ntmps4
      go_wp2_with (first | ((with_reducible refine gate_callee (f := 17) rfl ?_); refine goesL_ (some 13) rfl rfl Tryd.func17 (by kernel_rfl) rfl #[.string a0] rfl (by (try simp only [List.map_toArray, List.map_cons, List.map_nil]); first | done | rfl | (simp only [List.length_drop, List.length_take]; rfl)) ?_; (with_reducible refine (addr_Path.calls k a0 t176 t177 _ A5.out).mono ?_); rintro e w16 ⟨rfl, hb⟩; refine ⟨_, rfl, ?_⟩; have n0_ := Aside0.mk (below_step (by repeat (first | (with_reducible first | exact HB.out | apply below_alloc | apply pw_below_drewN | apply below_drew1) | exact HB.out)) hb); clear HB; have HB := n0_; clear n0_; (try clear hb); (try clear hb2); (try clear hk); (try clear hi)) | ((with_reducible refine gate_callee (f := 18) rfl ?_); refine goesL_ (some 18) rfl rfl Tryd.func18 (by kernel_rfl) rfl #[.string a0] rfl (by (try simp only [List.map_toArray, List.map_cons, List.map_nil]); first | done | rfl | (simp only [List.length_drop, List.length_take]; rfl)) ?_; (with_reducible refine (estafetteref01_Path.calls k a0 t178 t179 _ A6.out).mono ?_); rintro e w17 ⟨rfl, hb⟩; refine ⟨_, rfl, ?_⟩; have n0_ := Aside0.mk (below_step (by repeat (first | (with_reducible first | exact HB.out | apply below_alloc | apply pw_below_drewN | apply below_drew1) | exact HB.out)) hb); clear HB; have HB := n0_; clear n0_; (try clear hb); (try clear hb2); (try clear hk); (try clear hi)) | ((with_reducible refine gate_callee (f := 8) rfl ?_); refine goesL_ (some 21) rfl rfl Tryd.func8 (by kernel_rfl) rfl #[] rfl (by (try simp only [List.map_toArray, List.map_cons, List.map_nil]); first | done | rfl | (simp only [List.length_drop, List.length_take]; rfl)) ?_; (with_reducible refine (estafettelaw01_answers.calls k  false _ A7.out).mono ?_); rintro e w18 ⟨rfl, hb⟩; refine ⟨_, rfl, ?_⟩; have n0_ := Aside0.mk (below_step (by repeat (first | (with_reducible first | exact HB.out | apply below_alloc | apply pw_below_drewN | apply below_drew1) | exact HB.out)) hb); clear HB; have HB := n0_; clear n0_; (try clear hb); (try clear hb2); (try clear hk); (try clear hi)))
      go_ret
      exact ⟨by first | rfl | (simp [errW_none, errW_some] <;> rfl) | (simp [*, errW_none, errW_some] <;> rfl), by repeat (first | (with_reducible first | exact HB.out | apply below_alloc | apply pw_below_drewN | apply below_drew1) | exact HB.out)⟩

/-- THE ONE PURE STATEMENT of estafettelaw01_AddrPaths: yours. -/
def estafettelaw01_AddrPaths.Pure : Prop := ∀ (a0 : ByteArray), a0.size ≤ 140737488351232 → ∃ k, estafettelaw01_AddrPaths.f k a0 = some true
theorem estafettelaw01_AddrPaths.walk (P : estafettelaw01_AddrPaths.Pure) (a0 : ByteArray) (w : World) (w0 : a0.size ≤ 140737488351232) :
    Calls Tryd.prog 4 #[.string a0] w fun e w' => e = .returned (.bool true) ∧ Below w.heap.size w w' := by
  obtain ⟨k, h⟩ := P a0 w0
  refine (estafettelaw01_AddrPaths.calls k a0 true w h).mono ?_
  rintro e w' ⟨rfl, hd⟩
  exact ⟨rfl, hd⟩

end Go.Proofs.YtikfdngidbppbaaDoor.PB
