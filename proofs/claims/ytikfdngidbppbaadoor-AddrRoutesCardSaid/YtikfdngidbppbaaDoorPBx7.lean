/- For every input: what the functions below return, or the statement that this text proves. Written by a program of this claim.s author (a turned print). -/
import Derived.Test.YtikfdngidbppbaaDoorPBx0
import Derived.Test.YtikfdngidbppbaaDoorPBx1
import Derived.Test.YtikfdngidbppbaaDoorPBx3
namespace Go.Proofs.YtikfdngidbppbaaDoor.PB
open Go.RowKit Go.Proofs.YtikfdngidbppbaaDoorW.PrintWords Go.Proofs.YtikfdngidbppbaaDoorW.PrintLast Go.Proofs.YtikfdngidbppbaaDoorW.PrintMore
attribute [local go_sem] max2_int min2_int max_two min_two max_three min_three max_four min_four   -- for this text's walks alone
set_option linter.unusedVariables false
set_option linter.unusedSimpArgs false

/-! ### estafettelaw01_AddrRoutes: function 6 -/
mutual
def estafettelaw01_AddrRoutes.j0 : Nat → ByteArray → List ByteArray → Bool → Option (Bool)
  | 0, _, _, _ => none
  | k + 1, x0, x1, x25 => if x25 = true then ((estafettelaw01_answers.f k).bind fun t196 => (some t196)) else (estafettelaw01_AddrRoutes.l0 k x0 x1 (⟨#[60]⟩ : ByteArray) true 0)
def estafettelaw01_AddrRoutes.l0 : Nat → ByteArray → List ByteArray → ByteArray → Bool → Int → Option (Bool)
  | 0, _, _, _, _, _ => none
  | k + 1, x0, x1, x5, x6, x7 => if x7 < (x1.length : Int) then (if 0 ≤ x7 then (if ((rdOf ByteArray.empty x1 x7).size : Int) > 100 then ((estafettelaw01_answers.f k).bind fun t203 => (some t203)) else (if x7 > 0 then (if x5.size + 1 ≤ 9223372036854775807 then (estafettelaw01_AddrRoutes.j2 k x0 x1 (x5 ++ (⟨#[44]⟩ : ByteArray)) x6 x7) else (none)) else (estafettelaw01_AddrRoutes.j2 k x0 x1 x5 x6 x7))) else (none)) else ((estafetteref01_Canon.f k x0).bind fun bt197 => (if x5.size + 1 ≤ 9223372036854775807 then (if (x5 ++ (⟨#[58]⟩ : ByteArray)).size + x0.size ≤ 9223372036854775807 then (if ((x5 ++ (⟨#[58]⟩ : ByteArray)) ++ x0).size + 1 ≤ 9223372036854775807 then ((addr_Path.f k (((x5 ++ (⟨#[58]⟩ : ByteArray)) ++ x0) ++ (⟨#[62]⟩ : ByteArray))).bind fun bt199 => ((estafettelaw01_answers.f k).bind fun t201 => (if t201 = true then (if x6 = true then (if (bt199.2 == bt197.2) = true then (if bt199.2 = true then (some (bt199.1.toList == bt197.1.toList)) else (some true)) else (some false)) else (if (bt199.2 == false) = true then (if bt199.2 = true then (some (bt199.1.toList == bt197.1.toList)) else (some true)) else (some false))) else (some false)))) else (none)) else (none)) else (none)))
def estafettelaw01_AddrRoutes.j2 : Nat → ByteArray → List ByteArray → ByteArray → Bool → Int → Option (Bool)
  | 0, _, _, _, _, _ => none
  | k + 1, x0, x1, x5, x6, x7 => if x5.size + 1 ≤ 9223372036854775807 then (if 0 ≤ x7 then (if x7 < (x1.length : Int) then (if (x5 ++ (⟨#[64]⟩ : ByteArray)).size + (rdOf ByteArray.empty x1 x7).size ≤ 9223372036854775807 then (estafettelaw01_AddrRoutes.l1 k x0 x1 ((x5 ++ (⟨#[64]⟩ : ByteArray)) ++ (rdOf ByteArray.empty x1 x7)) x6 x7 0) else (none)) else (none)) else (none)) else (none)
def estafettelaw01_AddrRoutes.l1 : Nat → ByteArray → List ByteArray → ByteArray → Bool → Int → Int → Option (Bool)
  | 0, _, _, _, _, _, _ => none
  | k + 1, x0, x1, x5, x6, x7, x8 => if 0 ≤ x7 then (if x7 < (x1.length : Int) then (if x8 < ((rdOf ByteArray.empty x1 x7).size : Int) then (if 0 ≤ x8 then (if (bt (rdOf ByteArray.empty x1 x7) x8) = 44 then ((estafettelaw01_answers.f k).bind fun t207 => (some t207)) else (if (bt (rdOf ByteArray.empty x1 x7) x8) = 58 then ((estafettelaw01_answers.f k).bind fun t209 => (some t209)) else (estafettelaw01_AddrRoutes.l1 k x0 x1 x5 x6 x7 (wrap64 (x8 + 1))))) else (none)) else (if x6 = true then ((estafetteref01_Domain.f k (rdOf ByteArray.empty x1 x7)).bind fun t211 => (estafettelaw01_AddrRoutes.l0 k x0 x1 x5 t211 (wrap64 (x7 + 1)))) else (estafettelaw01_AddrRoutes.l0 k x0 x1 x5 false (wrap64 (x7 + 1))))) else (none)) else (none)
end
def estafettelaw01_AddrRoutes.f (k : Nat) (a0 : ByteArray) (l1 : List ByteArray) : Option (Bool) := if (a0.size : Int) > 200 then (estafettelaw01_AddrRoutes.j0 k a0 l1 true) else (if (l1.length : Int) > 5 then (estafettelaw01_AddrRoutes.j0 k a0 l1 true) else (estafettelaw01_AddrRoutes.j0 k a0 l1 ((l1.length : Int) == 0)))
theorem estafettelaw01_AddrRoutes.mono_l : ∀ k, (∀ y0 y1 y2, LeO (estafettelaw01_AddrRoutes.j0 k y0 y1 y2) (estafettelaw01_AddrRoutes.j0 (k + 1) y0 y1 y2)) ∧ (∀ y0 y1 y2 y3 y4, LeO (estafettelaw01_AddrRoutes.l0 k y0 y1 y2 y3 y4) (estafettelaw01_AddrRoutes.l0 (k + 1) y0 y1 y2 y3 y4)) ∧ (∀ y0 y1 y2 y3 y4, LeO (estafettelaw01_AddrRoutes.j2 k y0 y1 y2 y3 y4) (estafettelaw01_AddrRoutes.j2 (k + 1) y0 y1 y2 y3 y4)) ∧ (∀ y0 y1 y2 y3 y4 y5, LeO (estafettelaw01_AddrRoutes.l1 k y0 y1 y2 y3 y4 y5) (estafettelaw01_AddrRoutes.l1 (k + 1) y0 y1 y2 y3 y4 y5))
  | 0 => ⟨fun _ _ _ r h => by simp [estafettelaw01_AddrRoutes.j0] at h, fun _ _ _ _ _ r h => by simp [estafettelaw01_AddrRoutes.l0] at h, fun _ _ _ _ _ r h => by simp [estafettelaw01_AddrRoutes.j2] at h, fun _ _ _ _ _ _ r h => by simp [estafettelaw01_AddrRoutes.l1] at h⟩
  | k + 1 => by
    obtain ⟨ih0, ih1, ih2, ih3⟩ := estafettelaw01_AddrRoutes.mono_l k
    refine ⟨?_, ?_, ?_, ?_⟩
    · intro y0 y1 y2
      unfold estafettelaw01_AddrRoutes.j0
      repeat' first
      | (with_reducible exact ih0 _ _ _)
      | (with_reducible exact ih1 _ _ _ _ _)
      | (with_reducible exact ih2 _ _ _ _ _)
      | (with_reducible exact ih3 _ _ _ _ _ _)
      | (with_reducible exact addr_Path.mono _ _)
      | (with_reducible exact estafettelaw01_answers.mono _)
      | (with_reducible exact estafetteref01_Canon.mono _ _)
      | (with_reducible exact estafetteref01_Domain.mono _ _)
      | (with_reducible exact LeO.refl _)
      | (with_reducible exact LeO.none _)
      | (with_reducible refine LeO.ite ?_ ?_)
      | (with_reducible refine LeO.bind ?_ (fun _ => ?_))
      | exact ih0 _ _ _
      | exact ih1 _ _ _ _ _
      | exact ih2 _ _ _ _ _
      | exact ih3 _ _ _ _ _ _
      | exact addr_Path.mono _ _
      | exact estafettelaw01_answers.mono _
      | exact estafetteref01_Canon.mono _ _
      | exact estafetteref01_Domain.mono _ _
      | exact LeO.none _
      | refine LeO.ite ?_ ?_
      | refine LeO.bind ?_ (fun _ => ?_)
    · intro y0 y1 y2 y3 y4
      unfold estafettelaw01_AddrRoutes.l0
      repeat' first
      | (with_reducible exact ih0 _ _ _)
      | (with_reducible exact ih1 _ _ _ _ _)
      | (with_reducible exact ih2 _ _ _ _ _)
      | (with_reducible exact ih3 _ _ _ _ _ _)
      | (with_reducible exact addr_Path.mono _ _)
      | (with_reducible exact estafettelaw01_answers.mono _)
      | (with_reducible exact estafetteref01_Canon.mono _ _)
      | (with_reducible exact estafetteref01_Domain.mono _ _)
      | (with_reducible exact LeO.refl _)
      | (with_reducible exact LeO.none _)
      | (with_reducible refine LeO.ite ?_ ?_)
      | (with_reducible refine LeO.bind ?_ (fun _ => ?_))
      | exact ih0 _ _ _
      | exact ih1 _ _ _ _ _
      | exact ih2 _ _ _ _ _
      | exact ih3 _ _ _ _ _ _
      | exact addr_Path.mono _ _
      | exact estafettelaw01_answers.mono _
      | exact estafetteref01_Canon.mono _ _
      | exact estafetteref01_Domain.mono _ _
      | exact LeO.none _
      | refine LeO.ite ?_ ?_
      | refine LeO.bind ?_ (fun _ => ?_)
    · intro y0 y1 y2 y3 y4
      unfold estafettelaw01_AddrRoutes.j2
      repeat' first
      | (with_reducible exact ih0 _ _ _)
      | (with_reducible exact ih1 _ _ _ _ _)
      | (with_reducible exact ih2 _ _ _ _ _)
      | (with_reducible exact ih3 _ _ _ _ _ _)
      | (with_reducible exact addr_Path.mono _ _)
      | (with_reducible exact estafettelaw01_answers.mono _)
      | (with_reducible exact estafetteref01_Canon.mono _ _)
      | (with_reducible exact estafetteref01_Domain.mono _ _)
      | (with_reducible exact LeO.refl _)
      | (with_reducible exact LeO.none _)
      | (with_reducible refine LeO.ite ?_ ?_)
      | (with_reducible refine LeO.bind ?_ (fun _ => ?_))
      | exact ih0 _ _ _
      | exact ih1 _ _ _ _ _
      | exact ih2 _ _ _ _ _
      | exact ih3 _ _ _ _ _ _
      | exact addr_Path.mono _ _
      | exact estafettelaw01_answers.mono _
      | exact estafetteref01_Canon.mono _ _
      | exact estafetteref01_Domain.mono _ _
      | exact LeO.none _
      | refine LeO.ite ?_ ?_
      | refine LeO.bind ?_ (fun _ => ?_)
    · intro y0 y1 y2 y3 y4 y5
      unfold estafettelaw01_AddrRoutes.l1
      repeat' first
      | (with_reducible exact ih0 _ _ _)
      | (with_reducible exact ih1 _ _ _ _ _)
      | (with_reducible exact ih2 _ _ _ _ _)
      | (with_reducible exact ih3 _ _ _ _ _ _)
      | (with_reducible exact addr_Path.mono _ _)
      | (with_reducible exact estafettelaw01_answers.mono _)
      | (with_reducible exact estafetteref01_Canon.mono _ _)
      | (with_reducible exact estafetteref01_Domain.mono _ _)
      | (with_reducible exact LeO.refl _)
      | (with_reducible exact LeO.none _)
      | (with_reducible refine LeO.ite ?_ ?_)
      | (with_reducible refine LeO.bind ?_ (fun _ => ?_))
      | exact ih0 _ _ _
      | exact ih1 _ _ _ _ _
      | exact ih2 _ _ _ _ _
      | exact ih3 _ _ _ _ _ _
      | exact addr_Path.mono _ _
      | exact estafettelaw01_answers.mono _
      | exact estafetteref01_Canon.mono _ _
      | exact estafetteref01_Domain.mono _ _
      | exact LeO.none _
      | refine LeO.ite ?_ ?_
      | refine LeO.bind ?_ (fun _ => ?_)
theorem estafettelaw01_AddrRoutes.mono : ∀ a0 a1 k, LeO (estafettelaw01_AddrRoutes.f k a0 a1) (estafettelaw01_AddrRoutes.f (k + 1) a0 a1) := by
  intro a0 a1 k
  obtain ⟨ih0, ih1, ih2, ih3⟩ := estafettelaw01_AddrRoutes.mono_l k
  unfold estafettelaw01_AddrRoutes.f
  repeat' first
      | (with_reducible exact ih0 _ _ _)
      | (with_reducible exact ih1 _ _ _ _ _)
      | (with_reducible exact ih2 _ _ _ _ _)
      | (with_reducible exact ih3 _ _ _ _ _ _)
      | (with_reducible exact addr_Path.mono _ _)
      | (with_reducible exact estafettelaw01_answers.mono _)
      | (with_reducible exact estafetteref01_Canon.mono _ _)
      | (with_reducible exact estafetteref01_Domain.mono _ _)
      | (with_reducible exact LeO.refl _)
      | (with_reducible exact LeO.none _)
      | (with_reducible refine LeO.ite ?_ ?_)
      | (with_reducible refine LeO.bind ?_ (fun _ => ?_))
      | exact ih0 _ _ _
      | exact ih1 _ _ _ _ _
      | exact ih2 _ _ _ _ _
      | exact ih3 _ _ _ _ _ _
      | exact addr_Path.mono _ _
      | exact estafettelaw01_answers.mono _
      | exact estafetteref01_Canon.mono _ _
      | exact estafetteref01_Domain.mono _ _
      | exact LeO.none _
      | refine LeO.ite ?_ ?_
      | refine LeO.bind ?_ (fun _ => ?_)
set_option maxHeartbeats 8000000 in
set_option maxRecDepth 100000 in
theorem estafettelaw01_AddrRoutes.calls (k : Nat) (a0 : ByteArray) (A1 : Option Addr) (c1 : Nat) (l1 : List ByteArray) (r : Bool) (w : World) (hr1 : Kd.C Kd.string w A1 l1.length l1) (hc1 : l1.length ≤ c1) (h : estafettelaw01_AddrRoutes.f k a0 l1 = some r) :
    Calls Tryd.prog 6 #[.string a0, .slice A1 l1.length c1] w fun e w' => e = .returned (.bool r) ∧ Below w.heap.size w w' := by
  have HR1 := Aside0.mk hr1
  have HC1 := Aside0.mk hc1
  clear hr1 hc1
  have HB := Aside0.mk (Below.refl w.heap.size w)
  have H : (if (a0.size : Int) > 200 then (estafettelaw01_AddrRoutes.j0 k a0 l1 true) else (if (l1.length : Int) > 5 then (estafettelaw01_AddrRoutes.j0 k a0 l1 true) else (estafettelaw01_AddrRoutes.j0 k a0 l1 ((l1.length : Int) == 0)))) = some r := h
  clear h
  have HC3 := Aside0.mk H
  clear H
  go_enter Tryd.func6, Tryd.ntmps6
  go_upto_region 1 with (fail)
  go_cut [25] (fun v25 wc => ∃ (kq : Nat) (x25_2 : Bool), v25 = .bool x25_2 ∧ Aside0 (estafettelaw01_AddrRoutes.j0 kq a0 l1 x25_2 = some r) ∧ Aside0 (kq ≤ k) ∧ Aside0 (Below w.heap.size w wc))
  case first =>
    have H := HC3.out
    clear HC3
    by_cases c4 : (a0.size : Int) > 200
    · rw [if_pos c4] at H
      have c4b0 : decide (200 < (a0.size : Int)) = true := decide_eq_true c4
      have c4b1 : decide (200 < a0.size) = true := decide_eq_true (by omega)
      clear c4
      (first | rw [c4b0] | (simp only [i64_w, i32_w]; rw [c4b0]) | skip)
      have H' := Aside0.mk H
      clear H
      go_wp2
      go_meet
      case rel => exact ⟨_, (true), (by first | rfl | (simp; done) | (simp [*]; done)), H', ⟨by first | omega | exact Nat.le_refl _⟩, ⟨by repeat (first | (with_reducible first | exact HB.out | apply below_alloc | apply pw_below_drewN | apply below_drew1) | exact HB.out)⟩⟩
    · rw [if_neg c4] at H
      have c4b0 : decide (200 < (a0.size : Int)) = false := decide_eq_false c4
      have c4b1 : decide (200 < a0.size) = false := decide_eq_false (by omega)
      clear c4
      (first | rw [c4b0] | (simp only [i64_w, i32_w]; rw [c4b0]) | skip)
      by_cases c5 : (l1.length : Int) > 5
      · rw [if_pos c5] at H
        have c5b0 : decide (5 < (l1.length : Int)) = true := decide_eq_true c5
        have c5b1 : decide (5 < l1.length) = true := decide_eq_true (by omega)
        clear c5
        have H' := Aside0.mk H
        clear H
        go_wp2
        go_meet
        case rel => exact ⟨_, (true), (by first | rfl | (simp; done) | (simp [*]; done)), H', ⟨by first | omega | exact Nat.le_refl _⟩, ⟨by repeat (first | (with_reducible first | exact HB.out | apply below_alloc | apply pw_below_drewN | apply below_drew1) | exact HB.out)⟩⟩
      · rw [if_neg c5] at H
        have c5b0 : decide (5 < (l1.length : Int)) = false := decide_eq_false c5
        have c5b1 : decide (5 < l1.length) = false := decide_eq_false (by omega)
        clear c5
        have H' := Aside0.mk H
        clear H
        go_wp2
        go_meet
        case rel => exact ⟨_, (((l1.length : Int) == 0)), (by first | rfl | (simp; done) | (simp [*]; done)), H', ⟨by first | omega | exact Nat.le_refl _⟩, ⟨by repeat (first | (with_reducible first | exact HB.out | apply below_alloc | apply pw_below_drewN | apply below_drew1) | exact HB.out)⟩⟩
  case rest =>
    clear HC3
    try clear c1
    try clear p2
    try clear c4
    try clear c4b0
    try clear c4b1
    try clear c5
    try clear c5b0
    try clear c5b1
    obtain ⟨kq, x25_2, rfl, HA, HJ2, HB⟩ := hcut
    cases kq with
    | zero => exact absurd HA.out (by simp [estafettelaw01_AddrRoutes.j0])
    | succ kj2 =>
      have H := HA.out
      clear HA
      simp only [estafettelaw01_AddrRoutes.j0] at H
      by_cases c6 : x25_2 = true
      · subst c6
        have H1 : ((estafettelaw01_answers.f kj2).bind fun t196 => (some t196)) = some r := by rw [if_pos rfl] at H; exact H
        clear H
        have H := H1
        clear H1
        replace H := Option.bind_eq_some_iff.mp H
        obtain ⟨t196, A70, H⟩ := H
        replace H : (some t196) = some r := H
        have A7 := Aside0.mk A70
        clear A70
        obtain rfl := Option.some.inj H
        go_wp2_with (first | ((with_reducible refine gate_callee (f := 8) rfl ?_); refine goesL_ (some 26) rfl rfl Tryd.func8 (by kernel_rfl) rfl #[] rfl (by (try simp only [List.map_toArray, List.map_cons, List.map_nil]); first | done | rfl | (simp only [List.length_drop, List.length_take]; rfl)) ?_; (with_reducible refine (estafettelaw01_answers.calls kj2  t196 _ A7.out).mono ?_); rintro e w8 ⟨rfl, hb⟩; refine ⟨_, rfl, ?_⟩; have n0_ := Aside0.mk (below_step (by repeat (first | (with_reducible first | exact HB.out | apply below_alloc | apply pw_below_drewN | apply below_drew1) | exact HB.out)) hb); clear HB; have HB := n0_; clear n0_; (try clear hb); (try clear hb2); (try clear hk); (try clear hi)))
        go_ret
        exact ⟨by first | rfl | (simp [errW_none, errW_some] <;> rfl) | (simp [*, errW_none, errW_some] <;> rfl), by repeat (first | (with_reducible first | exact HB.out | apply below_alloc | apply pw_below_drewN | apply below_drew1) | exact HB.out)⟩
      · replace c6 := Bool.eq_false_iff.mpr c6
        subst c6
        have H1 : (estafettelaw01_AddrRoutes.l0 kj2 a0 l1 (⟨#[60]⟩ : ByteArray) true 0) = some r := by rw [if_neg (show ¬ (false = true) by decide)] at H; exact H
        clear H
        have H := H1
        clear H1
        have H' := Aside0.mk H
        clear H
        go_wp2
        go_loopg [5, 6, 7] kj2 (fun kq v5 v6 v7 w' => ∃ (x5_2 : ByteArray) (x6_2 : Bool) (x7_2 : Int), v5 = .string x5_2 ∧ v6 = .bool x6_2 ∧ v7 = .int .i64 x7_2 ∧ Aside0 (estafettelaw01_AddrRoutes.l0 kq a0 l1 x5_2 x6_2 x7_2 = some r) ∧ Aside0 (kq ≤ kj2) ∧ Aside0 (Below w.heap.size w w'))
        case atStart => exact ⟨((⟨#[60]⟩ : ByteArray)), (true), (0), (by first | rfl | (simp; done) | (simp [*]; done)), (by first | rfl | (simp; done) | (simp [*]; done)), (by first | rfl | (simp; done) | (simp [*]; done)), H', ⟨Nat.le_refl _⟩, ⟨by repeat (first | (with_reducible first | exact HB.out | apply below_alloc | apply pw_below_drewN | apply below_drew1) | exact HB.out)⟩⟩
        case round =>
          clear H'
          try clear c1
          try clear p2
          try clear c4
          try clear c4b0
          try clear c4b1
          try clear c5
          try clear c5b0
          try clear c5b1
          try clear c6
          try clear c8
          try clear p2
          obtain ⟨x5_2, x6_2, x7_2, rfl, rfl, rfl, HA, HK2, HB⟩ := hrel
          cases gk with
          | zero => exact absurd HA.out (by simp [estafettelaw01_AddrRoutes.l0])
          | succ k2 =>
            have H := HA.out
            clear HA
            simp only [estafettelaw01_AddrRoutes.l0] at H
            by_cases c9 : x7_2 < (l1.length : Int)
            · rw [if_pos c9] at H
              have c9b0 : decide (x7_2 < (l1.length : Int)) = true := decide_eq_true c9
              clear c9
              by_cases c10 : 0 ≤ x7_2
              · rw [if_pos c10] at H
                have c10b0 : decide (0 ≤ x7_2) = true := decide_eq_true c10
                clear c10
                by_cases c11 : ((rdOf ByteArray.empty l1 x7_2).size : Int) > 100
                · rw [if_pos c11] at H
                  have c11b0 : decide (100 < ((rdOf ByteArray.empty l1 x7_2).size : Int)) = true := decide_eq_true c11
                  have c11b1 : decide (100 < (rdOf ByteArray.empty l1 x7_2).size) = true := decide_eq_true (by omega)
                  clear c11
                  replace H := Option.bind_eq_some_iff.mp H
                  obtain ⟨t203, A120, H⟩ := H
                  replace H : (some t203) = some r := H
                  have A12 := Aside0.mk A120
                  clear A120
                  obtain rfl := Option.some.inj H
                  have p202 : 0 ≤ (x7_2 : Int) := of_decide_eq_true (by first | (with_reducible assumption) | assumption)
                  have q202 : x7_2 < (l1.length : Int) := of_decide_eq_true (by first | (with_reducible assumption) | assumption)
                  obtain ⟨ad202, e202, hx202_0⟩ := Kd.at_string HR1.out x7_2 p202 q202
                  cases e202
                  replace hx202_0 := (HB.out.cell (World.block_lt_of_cell? w _ hx202_0)).trans hx202_0
                  replace p202 := eq_true p202
                  replace q202 := eq_true q202
                  go_wp2_with (first | ((with_reducible refine gate_callee (f := 8) rfl ?_); refine goesL_ (some 39) rfl rfl Tryd.func8 (by kernel_rfl) rfl #[] rfl (by (try simp only [List.map_toArray, List.map_cons, List.map_nil]); first | done | rfl | (simp only [List.length_drop, List.length_take]; rfl)) ?_; (with_reducible refine (estafettelaw01_answers.calls k2  t203 _ A12.out).mono ?_); rintro e w13 ⟨rfl, hb⟩; refine ⟨_, rfl, ?_⟩; have n0_ := Aside0.mk (below_step (by repeat (first | (with_reducible first | exact HB.out | apply below_alloc | apply pw_below_drewN | apply below_drew1) | exact HB.out)) hb); clear HB; have HB := n0_; clear n0_; (try clear hb); (try clear hb2); (try clear hk); (try clear hi)))
                  go_ret
                  exact ⟨by first | rfl | (simp [errW_none, errW_some] <;> rfl) | (simp [*, errW_none, errW_some] <;> rfl), by repeat (first | (with_reducible first | exact HB.out | apply below_alloc | apply pw_below_drewN | apply below_drew1) | exact HB.out)⟩
                · rw [if_neg c11] at H
                  have c11b0 : decide (100 < ((rdOf ByteArray.empty l1 x7_2).size : Int)) = false := decide_eq_false c11
                  have c11b1 : decide (100 < (rdOf ByteArray.empty l1 x7_2).size) = false := decide_eq_false (by omega)
                  clear c11
                  have HC14 := Aside0.mk H
                  clear H
                  have p202 : 0 ≤ (x7_2 : Int) := of_decide_eq_true (by first | (with_reducible assumption) | assumption)
                  have q202 : x7_2 < (l1.length : Int) := of_decide_eq_true (by first | (with_reducible assumption) | assumption)
                  obtain ⟨ad202, e202, hx202_0⟩ := Kd.at_string HR1.out x7_2 p202 q202
                  cases e202
                  replace hx202_0 := (HB.out.cell (World.block_lt_of_cell? w _ hx202_0)).trans hx202_0
                  replace p202 := eq_true p202
                  replace q202 := eq_true q202
                  go_upto_if 41 with (fail)
                  go_cut [5] (fun v5 wc => ∃ (kq : Nat) (x5_13 : ByteArray), v5 = .string x5_13 ∧ Aside0 (estafettelaw01_AddrRoutes.j2 kq a0 l1 x5_13 x6_2 x7_2 = some r) ∧ Aside0 (kq ≤ k2) ∧ Aside0 (Below w.heap.size w wc))
                  case first =>
                    have H := HC14.out
                    clear HC14
                    by_cases c15 : x7_2 > 0
                    · rw [if_pos c15] at H
                      have c15b0 : decide (0 < x7_2) = true := decide_eq_true c15
                      clear c15
                      (first | rw [c15b0] | (simp only [i64_w, i32_w]; rw [c15b0]) | skip)
                      by_cases c16 : x5_2.size + 1 ≤ 9223372036854775807
                      · rw [if_pos c16] at H
                        have c16b0 := eq_true c16
                        have c16b1 : decide (x5_2.size + 1 ≤ 9223372036854775807) = true := decide_eq_true c16
                        try have c16b2 : (9223372036854775807 < x5_2.size + 1) = False := eq_false (Nat.not_lt.2 c16)
                        have H' := Aside0.mk H
                        clear H
                        go_wp2
                        go_meet
                        case rel => exact ⟨_, (x5_2 ++ (⟨#[44]⟩ : ByteArray)), (by first | rfl | (simp; done) | (simp [*]; done)), H', ⟨by have := HJ2.out; have := HK2.out; first | omega | exact Nat.le_refl _⟩, ⟨by repeat (first | (with_reducible first | exact HB.out | apply below_alloc | apply pw_below_drewN | apply below_drew1) | exact HB.out)⟩⟩
                      · rw [if_neg c16] at H
                        exact absurd H (by simp)
                    · rw [if_neg c15] at H
                      have c15b0 : decide (0 < x7_2) = false := decide_eq_false c15
                      clear c15
                      (first | rw [c15b0] | (simp only [i64_w, i32_w]; rw [c15b0]) | skip)
                      have H' := Aside0.mk H
                      clear H
                      go_wp2
                      go_meet
                      case rel => exact ⟨_, (x5_2), (by first | rfl | (simp; done) | (simp [*]; done)), H', ⟨by have := HJ2.out; have := HK2.out; first | omega | exact Nat.le_refl _⟩, ⟨by repeat (first | (with_reducible first | exact HB.out | apply below_alloc | apply pw_below_drewN | apply below_drew1) | exact HB.out)⟩⟩
                  case rest =>
                    clear HC14
                    try clear c1
                    try clear p2
                    try clear q2
                    try clear hx2
                    try clear c4
                    try clear c4b0
                    try clear c4b1
                    try clear c5
                    try clear c5b0
                    try clear c5b1
                    try clear c6
                    try clear c8
                    try clear c9
                    try clear c9b0
                    try clear c10
                    try clear c10b0
                    try clear c11
                    try clear c11b0
                    try clear c11b1
                    try clear c15
                    try clear c15b0
                    try clear c16
                    try clear c16b0
                    try clear c16b1
                    try clear c16b2
                    try clear hx202_0
                    try clear p2
                    try clear p202
                    try clear q202
                    obtain ⟨kq, x5_13, rfl, HA, HJ13, HB⟩ := hcut
                    cases kq with
                    | zero => exact absurd HA.out (by simp [estafettelaw01_AddrRoutes.j2])
                    | succ kj13 =>
                      have H := HA.out
                      clear HA
                      simp only [estafettelaw01_AddrRoutes.j2] at H
                      by_cases c17 : x5_13.size + 1 ≤ 9223372036854775807
                      · rw [if_pos c17] at H
                        have c17b0 := eq_true c17
                        have c17b1 : decide (x5_13.size + 1 ≤ 9223372036854775807) = true := decide_eq_true c17
                        try have c17b2 : (9223372036854775807 < x5_13.size + 1) = False := eq_false (Nat.not_lt.2 c17)
                        by_cases c18 : 0 ≤ x7_2
                        · rw [if_pos c18] at H
                          have c18b0 : decide (0 ≤ x7_2) = true := decide_eq_true c18
                          clear c18
                          by_cases c19 : x7_2 < (l1.length : Int)
                          · rw [if_pos c19] at H
                            have c19b0 : decide (x7_2 < (l1.length : Int)) = true := decide_eq_true c19
                            clear c19
                            by_cases c20 : (x5_13 ++ (⟨#[64]⟩ : ByteArray)).size + (rdOf ByteArray.empty l1 x7_2).size ≤ 9223372036854775807
                            · rw [if_pos c20] at H
                              have c20b0 := eq_true c20
                              have c20b1 : decide ((x5_13 ++ (⟨#[64]⟩ : ByteArray)).size + (rdOf ByteArray.empty l1 x7_2).size ≤ 9223372036854775807) = true := decide_eq_true c20
                              try have c20b2 : (9223372036854775807 < (x5_13 ++ (⟨#[64]⟩ : ByteArray)).size + (rdOf ByteArray.empty l1 x7_2).size) = False := eq_false (Nat.not_lt.2 c20)
                              have c20z0 : (⟨#[64]⟩ : ByteArray).size = 1 := rfl
                              (try (have c20p := c20; simp only [ByteArray.size_append, List.length_append, c20z0] at c20p))
                              have H' := Aside0.mk H
                              clear H
                              have p204 : 0 ≤ (x7_2 : Int) := of_decide_eq_true (by first | (with_reducible assumption) | assumption)
                              have q204 : x7_2 < (l1.length : Int) := of_decide_eq_true (by first | (with_reducible assumption) | assumption)
                              obtain ⟨ad204, e204, hx204_0⟩ := Kd.at_string HR1.out x7_2 p204 q204
                              obtain rfl : ad202 = ad204 := (by injection e204)
                              replace hx204_0 := (HB.out.cell (World.block_lt_of_cell? w _ hx204_0)).trans hx204_0
                              replace p204 := eq_true p204
                              replace q204 := eq_true q204
                              go_wp2
                              go_loopg [8] kj13 (fun kq v8 w' => ∃ (x8_4 : Int), v8 = .int .i64 x8_4 ∧ Aside0 (estafettelaw01_AddrRoutes.l1 kq a0 l1 ((x5_13 ++ (⟨#[64]⟩ : ByteArray)) ++ (rdOf ByteArray.empty l1 x7_2)) x6_2 x7_2 x8_4 = some r) ∧ Aside0 (kq ≤ kj13) ∧ Aside0 (Below w.heap.size w w'))
                              case atStart => exact ⟨(0), (by first | rfl | (simp; done) | (simp [*]; done)), H', ⟨Nat.le_refl _⟩, ⟨by repeat (first | (with_reducible first | exact HB.out | apply below_alloc | apply pw_below_drewN | apply below_drew1) | exact HB.out)⟩⟩
                              case round =>
                                clear H'
                                try clear c1
                                try clear c2
                                try clear p2
                                try clear q2
                                try clear hx2
                                try clear c4
                                try clear c4b0
                                try clear c4b1
                                try clear c5
                                try clear c5b0
                                try clear c5b1
                                try clear c6
                                try clear c8
                                try clear c9
                                try clear c9b0
                                try clear c10
                                try clear c10b0
                                try clear c11
                                try clear c11b0
                                try clear c11b1
                                try clear c15
                                try clear c15b0
                                try clear c16
                                try clear c16b0
                                try clear c16b1
                                try clear c16b2
                                try clear c17
                                try clear c17b0
                                try clear c17b1
                                try clear c17b2
                                try clear c18
                                try clear c18b0
                                try clear c19
                                try clear c19b0
                                try clear c20
                                try clear c20b0
                                try clear c20b1
                                try clear c20b2
                                try clear p20
                                try clear q20
                                try clear hx20
                                try clear hx202_0
                                try clear hx204_0
                                try clear p2
                                try clear p202
                                try clear p204
                                try clear q2
                                try clear q202
                                try clear q204
                                obtain ⟨x8_4, rfl, HA, HK4, HB⟩ := hrel
                                cases gk with
                                | zero => exact absurd HA.out (by simp [estafettelaw01_AddrRoutes.l1])
                                | succ k4 =>
                                  have H := HA.out
                                  clear HA
                                  simp only [estafettelaw01_AddrRoutes.l1] at H
                                  by_cases c21 : 0 ≤ x7_2
                                  · rw [if_pos c21] at H
                                    have c21b0 : decide (0 ≤ x7_2) = true := decide_eq_true c21
                                    clear c21
                                    by_cases c22 : x7_2 < (l1.length : Int)
                                    · rw [if_pos c22] at H
                                      have c22b0 : decide (x7_2 < (l1.length : Int)) = true := decide_eq_true c22
                                      clear c22
                                      by_cases c23 : x8_4 < ((rdOf ByteArray.empty l1 x7_2).size : Int)
                                      · rw [if_pos c23] at H
                                        have c23b0 : decide (x8_4 < ((rdOf ByteArray.empty l1 x7_2).size : Int)) = true := decide_eq_true c23
                                        clear c23
                                        by_cases c24 : 0 ≤ x8_4
                                        · rw [if_pos c24] at H
                                          have c24b0 : decide (0 ≤ x8_4) = true := decide_eq_true c24
                                          clear c24
                                          by_cases c26 : (bt (rdOf ByteArray.empty l1 x7_2) x8_4) = 44
                                          · rw [if_pos c26] at H
                                            have c26b0 : ((bt (rdOf ByteArray.empty l1 x7_2) x8_4) == 44) = true := beq_iff_eq.mpr c26
                                            have c26b1 : ((bt (rdOf ByteArray.empty l1 x7_2) x8_4) != 44) = false := bne_eq_false_iff_eq.mpr c26
                                            clear c26
                                            replace H := Option.bind_eq_some_iff.mp H
                                            obtain ⟨t207, A270, H⟩ := H
                                            replace H : (some t207) = some r := H
                                            have A27 := Aside0.mk A270
                                            clear A270
                                            obtain rfl := Option.some.inj H
                                            have p205 : 0 ≤ (x7_2 : Int) := of_decide_eq_true (by first | (with_reducible assumption) | assumption)
                                            have q205 : x7_2 < (l1.length : Int) := of_decide_eq_true (by first | (with_reducible assumption) | assumption)
                                            obtain ⟨ad205, e205, hx205_0⟩ := Kd.at_string HR1.out x7_2 p205 q205
                                            obtain rfl : ad202 = ad205 := (by injection e205)
                                            replace hx205_0 := (HB.out.cell (World.block_lt_of_cell? w _ hx205_0)).trans hx205_0
                                            replace p205 := eq_true p205
                                            replace q205 := eq_true q205
                                            have p206 : 0 ≤ (x7_2 : Int) := of_decide_eq_true (by first | (with_reducible assumption) | assumption)
                                            have q206 : x7_2 < (l1.length : Int) := of_decide_eq_true (by first | (with_reducible assumption) | assumption)
                                            obtain ⟨ad206, e206, hx206_0⟩ := Kd.at_string HR1.out x7_2 p206 q206
                                            obtain rfl : ad202 = ad206 := (by injection e206)
                                            replace hx206_0 := (HB.out.cell (World.block_lt_of_cell? w _ hx206_0)).trans hx206_0
                                            replace p206 := eq_true p206
                                            replace q206 := eq_true q206
                                            have p25 : 0 ≤ (x8_4 : Int) := of_decide_eq_true (by first | (with_reducible assumption) | assumption)
                                            have q25 : x8_4 < ((rdOf ByteArray.empty l1 x7_2).size : Int) := of_decide_eq_true (by first | (with_reducible assumption) | assumption)
                                            have hx25 := bt_at (rdOf ByteArray.empty l1 x7_2) x8_4
                                            replace p25 := eq_true p25
                                            replace q25 := eq_true q25
                                            go_wp2_with (first | ((with_reducible refine gate_callee (f := 8) rfl ?_); refine goesL_ (some 76) rfl rfl Tryd.func8 (by kernel_rfl) rfl #[] rfl (by (try simp only [List.map_toArray, List.map_cons, List.map_nil]); first | done | rfl | (simp only [List.length_drop, List.length_take]; rfl)) ?_; (with_reducible refine (estafettelaw01_answers.calls k4  t207 _ A27.out).mono ?_); rintro e w28 ⟨rfl, hb⟩; refine ⟨_, rfl, ?_⟩; have n0_ := Aside0.mk (below_step (by repeat (first | (with_reducible first | exact HB.out | apply below_alloc | apply pw_below_drewN | apply below_drew1) | exact HB.out)) hb); clear HB; have HB := n0_; clear n0_; (try clear hb); (try clear hb2); (try clear hk); (try clear hi)))
                                            go_ret
                                            exact ⟨by first | rfl | (simp [errW_none, errW_some] <;> rfl) | (simp [*, errW_none, errW_some] <;> rfl), by repeat (first | (with_reducible first | exact HB.out | apply below_alloc | apply pw_below_drewN | apply below_drew1) | exact HB.out)⟩
                                          · rw [if_neg c26] at H
                                            have c26b0 : ((bt (rdOf ByteArray.empty l1 x7_2) x8_4) == 44) = false := beq_eq_false_iff_ne.mpr c26
                                            have c26b1 : ((bt (rdOf ByteArray.empty l1 x7_2) x8_4) != 44) = true := bne_iff_ne.mpr c26
                                            by_cases c30 : (bt (rdOf ByteArray.empty l1 x7_2) x8_4) = 58
                                            · rw [if_pos c30] at H
                                              have c30b0 : ((bt (rdOf ByteArray.empty l1 x7_2) x8_4) == 58) = true := beq_iff_eq.mpr c30
                                              have c30b1 : ((bt (rdOf ByteArray.empty l1 x7_2) x8_4) != 58) = false := bne_eq_false_iff_eq.mpr c30
                                              clear c30
                                              replace H := Option.bind_eq_some_iff.mp H
                                              obtain ⟨t209, A310, H⟩ := H
                                              replace H : (some t209) = some r := H
                                              have A31 := Aside0.mk A310
                                              clear A310
                                              obtain rfl := Option.some.inj H
                                              have p205 : 0 ≤ (x7_2 : Int) := of_decide_eq_true (by first | (with_reducible assumption) | assumption)
                                              have q205 : x7_2 < (l1.length : Int) := of_decide_eq_true (by first | (with_reducible assumption) | assumption)
                                              obtain ⟨ad205, e205, hx205_0⟩ := Kd.at_string HR1.out x7_2 p205 q205
                                              obtain rfl : ad202 = ad205 := (by injection e205)
                                              replace hx205_0 := (HB.out.cell (World.block_lt_of_cell? w _ hx205_0)).trans hx205_0
                                              replace p205 := eq_true p205
                                              replace q205 := eq_true q205
                                              have p206 : 0 ≤ (x7_2 : Int) := of_decide_eq_true (by first | (with_reducible assumption) | assumption)
                                              have q206 : x7_2 < (l1.length : Int) := of_decide_eq_true (by first | (with_reducible assumption) | assumption)
                                              obtain ⟨ad206, e206, hx206_0⟩ := Kd.at_string HR1.out x7_2 p206 q206
                                              obtain rfl : ad202 = ad206 := (by injection e206)
                                              replace hx206_0 := (HB.out.cell (World.block_lt_of_cell? w _ hx206_0)).trans hx206_0
                                              replace p206 := eq_true p206
                                              replace q206 := eq_true q206
                                              have p25 : 0 ≤ (x8_4 : Int) := of_decide_eq_true (by first | (with_reducible assumption) | assumption)
                                              have q25 : x8_4 < ((rdOf ByteArray.empty l1 x7_2).size : Int) := of_decide_eq_true (by first | (with_reducible assumption) | assumption)
                                              have hx25 := bt_at (rdOf ByteArray.empty l1 x7_2) x8_4
                                              replace p25 := eq_true p25
                                              replace q25 := eq_true q25
                                              have p208 : 0 ≤ (x7_2 : Int) := of_decide_eq_true (by first | (with_reducible assumption) | assumption)
                                              have q208 : x7_2 < (l1.length : Int) := of_decide_eq_true (by first | (with_reducible assumption) | assumption)
                                              obtain ⟨ad208, e208, hx208_0⟩ := Kd.at_string HR1.out x7_2 p208 q208
                                              obtain rfl : ad202 = ad208 := (by injection e208)
                                              replace hx208_0 := (HB.out.cell (World.block_lt_of_cell? w _ hx208_0)).trans hx208_0
                                              replace p208 := eq_true p208
                                              replace q208 := eq_true q208
                                              have p29 : 0 ≤ (x8_4 : Int) := of_decide_eq_true (by first | (with_reducible assumption) | assumption)
                                              have q29 : x8_4 < ((rdOf ByteArray.empty l1 x7_2).size : Int) := of_decide_eq_true (by first | (with_reducible assumption) | assumption)
                                              have hx29 := bt_at (rdOf ByteArray.empty l1 x7_2) x8_4
                                              replace p29 := eq_true p29
                                              replace q29 := eq_true q29
                                              go_wp2_with (first | ((with_reducible refine gate_callee (f := 8) rfl ?_); refine goesL_ (some 76) rfl rfl Tryd.func8 (by kernel_rfl) rfl #[] rfl (by (try simp only [List.map_toArray, List.map_cons, List.map_nil]); first | done | rfl | (simp only [List.length_drop, List.length_take]; rfl)) ?_; (with_reducible refine (estafettelaw01_answers.calls k4  t209 _ A31.out).mono ?_); rintro e w32 ⟨rfl, hb⟩; refine ⟨_, rfl, ?_⟩; have n0_ := Aside0.mk (below_step (by repeat (first | (with_reducible first | exact HB.out | apply below_alloc | apply pw_below_drewN | apply below_drew1) | exact HB.out)) hb); clear HB; have HB := n0_; clear n0_; (try clear hb); (try clear hb2); (try clear hk); (try clear hi)))
                                              go_ret
                                              exact ⟨by first | rfl | (simp [errW_none, errW_some] <;> rfl) | (simp [*, errW_none, errW_some] <;> rfl), by repeat (first | (with_reducible first | exact HB.out | apply below_alloc | apply pw_below_drewN | apply below_drew1) | exact HB.out)⟩
                                            · rw [if_neg c30] at H
                                              have c30b0 : ((bt (rdOf ByteArray.empty l1 x7_2) x8_4) == 58) = false := beq_eq_false_iff_ne.mpr c30
                                              have c30b1 : ((bt (rdOf ByteArray.empty l1 x7_2) x8_4) != 58) = true := bne_iff_ne.mpr c30
                                              have H' := Aside0.mk H
                                              clear H
                                              have p205 : 0 ≤ (x7_2 : Int) := of_decide_eq_true (by first | (with_reducible assumption) | assumption)
                                              have q205 : x7_2 < (l1.length : Int) := of_decide_eq_true (by first | (with_reducible assumption) | assumption)
                                              obtain ⟨ad205, e205, hx205_0⟩ := Kd.at_string HR1.out x7_2 p205 q205
                                              obtain rfl : ad202 = ad205 := (by injection e205)
                                              replace hx205_0 := (HB.out.cell (World.block_lt_of_cell? w _ hx205_0)).trans hx205_0
                                              replace p205 := eq_true p205
                                              replace q205 := eq_true q205
                                              have p206 : 0 ≤ (x7_2 : Int) := of_decide_eq_true (by first | (with_reducible assumption) | assumption)
                                              have q206 : x7_2 < (l1.length : Int) := of_decide_eq_true (by first | (with_reducible assumption) | assumption)
                                              obtain ⟨ad206, e206, hx206_0⟩ := Kd.at_string HR1.out x7_2 p206 q206
                                              obtain rfl : ad202 = ad206 := (by injection e206)
                                              replace hx206_0 := (HB.out.cell (World.block_lt_of_cell? w _ hx206_0)).trans hx206_0
                                              replace p206 := eq_true p206
                                              replace q206 := eq_true q206
                                              have p25 : 0 ≤ (x8_4 : Int) := of_decide_eq_true (by first | (with_reducible assumption) | assumption)
                                              have q25 : x8_4 < ((rdOf ByteArray.empty l1 x7_2).size : Int) := of_decide_eq_true (by first | (with_reducible assumption) | assumption)
                                              have hx25 := bt_at (rdOf ByteArray.empty l1 x7_2) x8_4
                                              replace p25 := eq_true p25
                                              replace q25 := eq_true q25
                                              have p208 : 0 ≤ (x7_2 : Int) := of_decide_eq_true (by first | (with_reducible assumption) | assumption)
                                              have q208 : x7_2 < (l1.length : Int) := of_decide_eq_true (by first | (with_reducible assumption) | assumption)
                                              obtain ⟨ad208, e208, hx208_0⟩ := Kd.at_string HR1.out x7_2 p208 q208
                                              obtain rfl : ad202 = ad208 := (by injection e208)
                                              replace hx208_0 := (HB.out.cell (World.block_lt_of_cell? w _ hx208_0)).trans hx208_0
                                              replace p208 := eq_true p208
                                              replace q208 := eq_true q208
                                              have p29 : 0 ≤ (x8_4 : Int) := of_decide_eq_true (by first | (with_reducible assumption) | assumption)
                                              have q29 : x8_4 < ((rdOf ByteArray.empty l1 x7_2).size : Int) := of_decide_eq_true (by first | (with_reducible assumption) | assumption)
                                              have hx29 := bt_at (rdOf ByteArray.empty l1 x7_2) x8_4
                                              replace p29 := eq_true p29
                                              replace q29 := eq_true q29
                                              go_wp2
                                              go_roundg k4
                                              case measure => have := HJ2.out; have := HK2.out; have := HJ13.out; have := HK4.out; omega
                                              case rel => exact ⟨(wrap64 (x8_4 + 1)), (by first | rfl | (simp; done) | (simp [*]; done)), H', ⟨by have := HJ2.out; have := HK2.out; have := HJ13.out; have := HK4.out; omega⟩, ⟨by repeat (first | (with_reducible first | exact HB.out | apply below_alloc | apply pw_below_drewN | apply below_drew1) | exact HB.out)⟩⟩
                                        · rw [if_neg c24] at H
                                          exact absurd H (by simp)
                                      · rw [if_neg c23] at H
                                        have c23b0 : decide (x8_4 < ((rdOf ByteArray.empty l1 x7_2).size : Int)) = false := decide_eq_false c23
                                        clear c23
                                        by_cases c33 : x6_2 = true
                                        · subst c33
                                          have H1 : ((estafetteref01_Domain.f k4 (rdOf ByteArray.empty l1 x7_2)).bind fun t211 => (estafettelaw01_AddrRoutes.l0 k4 a0 l1 ((x5_13 ++ (⟨#[64]⟩ : ByteArray)) ++ (rdOf ByteArray.empty l1 x7_2)) t211 (wrap64 (x7_2 + 1)))) = some r := by rw [if_pos rfl] at H; exact H
                                          clear H
                                          have H := H1
                                          clear H1
                                          replace H := Option.bind_eq_some_iff.mp H
                                          obtain ⟨t211, A340, H⟩ := H
                                          replace H : (estafettelaw01_AddrRoutes.l0 k4 a0 l1 ((x5_13 ++ (⟨#[64]⟩ : ByteArray)) ++ (rdOf ByteArray.empty l1 x7_2)) t211 (wrap64 (x7_2 + 1))) = some r := H
                                          have A34 := Aside0.mk A340
                                          clear A340
                                          have H' := Aside0.mk H
                                          clear H
                                          have p205 : 0 ≤ (x7_2 : Int) := of_decide_eq_true (by first | (with_reducible assumption) | assumption)
                                          have q205 : x7_2 < (l1.length : Int) := of_decide_eq_true (by first | (with_reducible assumption) | assumption)
                                          obtain ⟨ad205, e205, hx205_0⟩ := Kd.at_string HR1.out x7_2 p205 q205
                                          obtain rfl : ad202 = ad205 := (by injection e205)
                                          replace hx205_0 := (HB.out.cell (World.block_lt_of_cell? w _ hx205_0)).trans hx205_0
                                          replace p205 := eq_true p205
                                          replace q205 := eq_true q205
                                          have p210 : 0 ≤ (x7_2 : Int) := of_decide_eq_true (by first | (with_reducible assumption) | assumption)
                                          have q210 : x7_2 < (l1.length : Int) := of_decide_eq_true (by first | (with_reducible assumption) | assumption)
                                          obtain ⟨ad210, e210, hx210_0⟩ := Kd.at_string HR1.out x7_2 p210 q210
                                          obtain rfl : ad202 = ad210 := (by injection e210)
                                          replace hx210_0 := (HB.out.cell (World.block_lt_of_cell? w _ hx210_0)).trans hx210_0
                                          replace p210 := eq_true p210
                                          replace q210 := eq_true q210
                                          go_wp2_with (first | (go_at_call 16; (with_reducible refine (estafetteref01_Domain.calls k4 (rdOf ByteArray.empty l1 x7_2) t211 _ A34.out).mono ?_); rintro e w35 ⟨rfl, hb⟩; have n0_ := Aside0.mk (below_step (by repeat (first | (with_reducible first | exact HB.out | apply below_alloc | apply pw_below_drewN | apply below_drew1) | exact HB.out)) hb); clear HB; have HB := n0_; clear n0_; (try clear hb); (try clear hb2); (try clear hk); (try clear hi)))
                                          go_roundg k4
                                          case measure => have := HJ2.out; have := HK2.out; have := HJ13.out; have := HK4.out; omega
                                          case rel => exact ⟨(((x5_13 ++ (⟨#[64]⟩ : ByteArray)) ++ (rdOf ByteArray.empty l1 x7_2))), (t211), (wrap64 (x7_2 + 1)), (by first | rfl | (simp; done) | (simp [*]; done)), (by first | rfl | (simp; done) | (simp [*]; done)), (by first | rfl | (simp; done) | (simp [*]; done)), H', ⟨by have := HJ2.out; have := HK2.out; have := HJ13.out; have := HK4.out; omega⟩, ⟨by repeat (first | (with_reducible first | exact HB.out | apply below_alloc | apply pw_below_drewN | apply below_drew1) | exact HB.out)⟩⟩
                                        · replace c33 := Bool.eq_false_iff.mpr c33
                                          subst c33
                                          have H1 : (estafettelaw01_AddrRoutes.l0 k4 a0 l1 ((x5_13 ++ (⟨#[64]⟩ : ByteArray)) ++ (rdOf ByteArray.empty l1 x7_2)) false (wrap64 (x7_2 + 1))) = some r := by rw [if_neg (show ¬ (false = true) by decide)] at H; exact H
                                          clear H
                                          have H := H1
                                          clear H1
                                          have H' := Aside0.mk H
                                          clear H
                                          have p205 : 0 ≤ (x7_2 : Int) := of_decide_eq_true (by first | (with_reducible assumption) | assumption)
                                          have q205 : x7_2 < (l1.length : Int) := of_decide_eq_true (by first | (with_reducible assumption) | assumption)
                                          obtain ⟨ad205, e205, hx205_0⟩ := Kd.at_string HR1.out x7_2 p205 q205
                                          obtain rfl : ad202 = ad205 := (by injection e205)
                                          replace hx205_0 := (HB.out.cell (World.block_lt_of_cell? w _ hx205_0)).trans hx205_0
                                          replace p205 := eq_true p205
                                          replace q205 := eq_true q205
                                          go_wp2
                                          go_roundg k4
                                          case measure => have := HJ2.out; have := HK2.out; have := HJ13.out; have := HK4.out; omega
                                          case rel => exact ⟨(((x5_13 ++ (⟨#[64]⟩ : ByteArray)) ++ (rdOf ByteArray.empty l1 x7_2))), (false), (wrap64 (x7_2 + 1)), (by first | rfl | (simp; done) | (simp [*]; done)), (by first | rfl | (simp; done) | (simp [*]; done)), (by first | rfl | (simp; done) | (simp [*]; done)), H', ⟨by have := HJ2.out; have := HK2.out; have := HJ13.out; have := HK4.out; omega⟩, ⟨by repeat (first | (with_reducible first | exact HB.out | apply below_alloc | apply pw_below_drewN | apply below_drew1) | exact HB.out)⟩⟩
                                    · rw [if_neg c22] at H
                                      exact absurd H (by simp)
                                  · rw [if_neg c21] at H
                                    exact absurd H (by simp)
                            · rw [if_neg c20] at H
                              exact absurd H (by simp)
                          · rw [if_neg c19] at H
                            exact absurd H (by simp)
                        · rw [if_neg c18] at H
                          exact absurd H (by simp)
                      · rw [if_neg c17] at H
                        exact absurd H (by simp)
              · rw [if_neg c10] at H
                exact absurd H (by simp)
            · rw [if_neg c9] at H
              have c9b0 : decide (x7_2 < (l1.length : Int)) = false := decide_eq_false c9
              clear c9
              replace H := Option.bind_eq_some_iff.mp H
              obtain ⟨⟨t197, t198⟩, A360, H⟩ := H
              replace H : (if x5_2.size + 1 ≤ 9223372036854775807 then (if (x5_2 ++ (⟨#[58]⟩ : ByteArray)).size + a0.size ≤ 9223372036854775807 then (if ((x5_2 ++ (⟨#[58]⟩ : ByteArray)) ++ a0).size + 1 ≤ 9223372036854775807 then ((addr_Path.f k2 (((x5_2 ++ (⟨#[58]⟩ : ByteArray)) ++ a0) ++ (⟨#[62]⟩ : ByteArray))).bind fun bt199 => ((estafettelaw01_answers.f k2).bind fun t201 => (if t201 = true then (if x6_2 = true then (if (bt199.2 == t198) = true then (if bt199.2 = true then (some (bt199.1.toList == t197.toList)) else (some true)) else (some false)) else (if (bt199.2 == false) = true then (if bt199.2 = true then (some (bt199.1.toList == t197.toList)) else (some true)) else (some false))) else (some false)))) else (none)) else (none)) else (none)) = some r := H
              have A36 := Aside0.mk A360
              clear A360
              by_cases c37 : x5_2.size + 1 ≤ 9223372036854775807
              · rw [if_pos c37] at H
                have c37b0 := eq_true c37
                have c37b1 : decide (x5_2.size + 1 ≤ 9223372036854775807) = true := decide_eq_true c37
                try have c37b2 : (9223372036854775807 < x5_2.size + 1) = False := eq_false (Nat.not_lt.2 c37)
                by_cases c38 : (x5_2 ++ (⟨#[58]⟩ : ByteArray)).size + a0.size ≤ 9223372036854775807
                · rw [if_pos c38] at H
                  have c38b0 := eq_true c38
                  have c38b1 : decide ((x5_2 ++ (⟨#[58]⟩ : ByteArray)).size + a0.size ≤ 9223372036854775807) = true := decide_eq_true c38
                  try have c38b2 : (9223372036854775807 < (x5_2 ++ (⟨#[58]⟩ : ByteArray)).size + a0.size) = False := eq_false (Nat.not_lt.2 c38)
                  have c38z0 : (⟨#[58]⟩ : ByteArray).size = 1 := rfl
                  (try (have c38p := c38; simp only [ByteArray.size_append, List.length_append, c38z0] at c38p))
                  by_cases c39 : ((x5_2 ++ (⟨#[58]⟩ : ByteArray)) ++ a0).size + 1 ≤ 9223372036854775807
                  · rw [if_pos c39] at H
                    have c39b0 := eq_true c39
                    have c39b1 : decide (((x5_2 ++ (⟨#[58]⟩ : ByteArray)) ++ a0).size + 1 ≤ 9223372036854775807) = true := decide_eq_true c39
                    try have c39b2 : (9223372036854775807 < ((x5_2 ++ (⟨#[58]⟩ : ByteArray)) ++ a0).size + 1) = False := eq_false (Nat.not_lt.2 c39)
                    have c39z0 : (⟨#[58]⟩ : ByteArray).size = 1 := rfl
                    (try (have c39p := c39; simp only [ByteArray.size_append, List.length_append, c39z0] at c39p))
                    replace H := Option.bind_eq_some_iff.mp H
                    obtain ⟨⟨t199, t200⟩, A400, H⟩ := H
                    replace H : ((estafettelaw01_answers.f k2).bind fun t201 => (if t201 = true then (if x6_2 = true then (if (t200 == t198) = true then (if t200 = true then (some (t199.toList == t197.toList)) else (some true)) else (some false)) else (if (t200 == false) = true then (if t200 = true then (some (t199.toList == t197.toList)) else (some true)) else (some false))) else (some false))) = some r := H
                    have A40 := Aside0.mk A400
                    clear A400
                    replace H := Option.bind_eq_some_iff.mp H
                    obtain ⟨t201, A410, H⟩ := H
                    replace H : (if t201 = true then (if x6_2 = true then (if (t200 == t198) = true then (if t200 = true then (some (t199.toList == t197.toList)) else (some true)) else (some false)) else (if (t200 == false) = true then (if t200 = true then (some (t199.toList == t197.toList)) else (some true)) else (some false))) else (some false)) = some r := H
                    have A41 := Aside0.mk A410
                    clear A410
                    by_cases c42 : t201 = true
                    · subst c42
                      have H1 : (if x6_2 = true then (if (t200 == t198) = true then (if t200 = true then (some (t199.toList == t197.toList)) else (some true)) else (some false)) else (if (t200 == false) = true then (if t200 = true then (some (t199.toList == t197.toList)) else (some true)) else (some false))) = some r := by rw [if_pos rfl] at H; exact H
                      clear H
                      have H := H1
                      clear H1
                      by_cases c43 : x6_2 = true
                      · subst c43
                        have H1 : (if (t200 == t198) = true then (if t200 = true then (some (t199.toList == t197.toList)) else (some true)) else (some false)) = some r := by rw [if_pos rfl] at H; exact H
                        clear H
                        have H := H1
                        clear H1
                        by_cases c44 : (t200 == t198) = true
                        · rw [if_pos c44] at H
                          have c44b0 : (t200 == t198) = true := c44
                          (try (have c44b1 : decide (t200 = t198) = true := by simpa using c44))
                          (try (have c44b2 : (t200 == t198) = true := by simpa using c44))
                          clear c44
                          by_cases c45 : t200 = true
                          · subst c45
                            have H1 : (some (t199.toList == t197.toList)) = some r := by rw [if_pos rfl] at H; exact H
                            clear H
                            have H := H1
                            clear H1
                            obtain rfl := Option.some.inj H
                            go_wp2_with (first | ((with_reducible refine gate_callee (f := 12) rfl ?_); refine goesL_ (some 87) rfl rfl Tryd.func12 (by kernel_rfl) rfl #[.string a0] rfl (by (try simp only [List.map_toArray, List.map_cons, List.map_nil]); first | done | rfl | (simp only [List.length_drop, List.length_take]; rfl)) ?_; (with_reducible refine (estafetteref01_Canon.calls k2 a0 t197 t198 _ A36.out).mono ?_); rintro e w46 ⟨rfl, hb⟩; refine ⟨_, rfl, ?_⟩; have n0_ := Aside0.mk (below_step (by repeat (first | (with_reducible first | exact HB.out | apply below_alloc | apply pw_below_drewN | apply below_drew1) | exact HB.out)) hb); clear HB; have HB := n0_; clear n0_; (try clear hb); (try clear hb2); (try clear hk); (try clear hi)) | ((with_reducible refine gate_callee (f := 17) rfl ?_); refine goesL_ (some 96) rfl rfl Tryd.func17 (by kernel_rfl) rfl #[.string (((x5_2 ++ (⟨#[58]⟩ : ByteArray)) ++ a0) ++ (⟨#[62]⟩ : ByteArray))] rfl (by (try simp only [List.map_toArray, List.map_cons, List.map_nil]); first | done | rfl | (simp only [List.length_drop, List.length_take]; rfl)) ?_; (with_reducible refine (addr_Path.calls k2 (((x5_2 ++ (⟨#[58]⟩ : ByteArray)) ++ a0) ++ (⟨#[62]⟩ : ByteArray)) t199 true _ A40.out).mono ?_); rintro e w47 ⟨rfl, hb⟩; refine ⟨_, rfl, ?_⟩; have n0_ := Aside0.mk (below_step (by repeat (first | (with_reducible first | exact HB.out | apply below_alloc | apply pw_below_drewN | apply below_drew1) | exact HB.out)) hb); clear HB; have HB := n0_; clear n0_; (try clear hb); (try clear hb2); (try clear hk); (try clear hi)) | ((with_reducible refine gate_callee (f := 8) rfl ?_); refine goesL_ (some 99) rfl rfl Tryd.func8 (by kernel_rfl) rfl #[] rfl (by (try simp only [List.map_toArray, List.map_cons, List.map_nil]); first | done | rfl | (simp only [List.length_drop, List.length_take]; rfl)) ?_; (with_reducible refine (estafettelaw01_answers.calls k2  true _ A41.out).mono ?_); rintro e w48 ⟨rfl, hb⟩; refine ⟨_, rfl, ?_⟩; have n0_ := Aside0.mk (below_step (by repeat (first | (with_reducible first | exact HB.out | apply below_alloc | apply pw_below_drewN | apply below_drew1) | exact HB.out)) hb); clear HB; have HB := n0_; clear n0_; (try clear hb); (try clear hb2); (try clear hk); (try clear hi)))
                            go_ret
                            exact ⟨by first | rfl | (simp [errW_none, errW_some] <;> rfl) | (simp [*, errW_none, errW_some] <;> rfl), by repeat (first | (with_reducible first | exact HB.out | apply below_alloc | apply pw_below_drewN | apply below_drew1) | exact HB.out)⟩
                          · replace c45 := Bool.eq_false_iff.mpr c45
                            subst c45
                            have H1 : (some true) = some r := by rw [if_neg (show ¬ (false = true) by decide)] at H; exact H
                            clear H
                            have H := H1
                            clear H1
                            obtain rfl := Option.some.inj H
                            go_wp2_with (first | ((with_reducible refine gate_callee (f := 12) rfl ?_); refine goesL_ (some 87) rfl rfl Tryd.func12 (by kernel_rfl) rfl #[.string a0] rfl (by (try simp only [List.map_toArray, List.map_cons, List.map_nil]); first | done | rfl | (simp only [List.length_drop, List.length_take]; rfl)) ?_; (with_reducible refine (estafetteref01_Canon.calls k2 a0 t197 t198 _ A36.out).mono ?_); rintro e w49 ⟨rfl, hb⟩; refine ⟨_, rfl, ?_⟩; have n0_ := Aside0.mk (below_step (by repeat (first | (with_reducible first | exact HB.out | apply below_alloc | apply pw_below_drewN | apply below_drew1) | exact HB.out)) hb); clear HB; have HB := n0_; clear n0_; (try clear hb); (try clear hb2); (try clear hk); (try clear hi)) | ((with_reducible refine gate_callee (f := 17) rfl ?_); refine goesL_ (some 96) rfl rfl Tryd.func17 (by kernel_rfl) rfl #[.string (((x5_2 ++ (⟨#[58]⟩ : ByteArray)) ++ a0) ++ (⟨#[62]⟩ : ByteArray))] rfl (by (try simp only [List.map_toArray, List.map_cons, List.map_nil]); first | done | rfl | (simp only [List.length_drop, List.length_take]; rfl)) ?_; (with_reducible refine (addr_Path.calls k2 (((x5_2 ++ (⟨#[58]⟩ : ByteArray)) ++ a0) ++ (⟨#[62]⟩ : ByteArray)) t199 false _ A40.out).mono ?_); rintro e w50 ⟨rfl, hb⟩; refine ⟨_, rfl, ?_⟩; have n0_ := Aside0.mk (below_step (by repeat (first | (with_reducible first | exact HB.out | apply below_alloc | apply pw_below_drewN | apply below_drew1) | exact HB.out)) hb); clear HB; have HB := n0_; clear n0_; (try clear hb); (try clear hb2); (try clear hk); (try clear hi)) | ((with_reducible refine gate_callee (f := 8) rfl ?_); refine goesL_ (some 99) rfl rfl Tryd.func8 (by kernel_rfl) rfl #[] rfl (by (try simp only [List.map_toArray, List.map_cons, List.map_nil]); first | done | rfl | (simp only [List.length_drop, List.length_take]; rfl)) ?_; (with_reducible refine (estafettelaw01_answers.calls k2  true _ A41.out).mono ?_); rintro e w51 ⟨rfl, hb⟩; refine ⟨_, rfl, ?_⟩; have n0_ := Aside0.mk (below_step (by repeat (first | (with_reducible first | exact HB.out | apply below_alloc | apply pw_below_drewN | apply below_drew1) | exact HB.out)) hb); clear HB; have HB := n0_; clear n0_; (try clear hb); (try clear hb2); (try clear hk); (try clear hi)))
                            go_ret
                            exact ⟨by first | rfl | (simp [errW_none, errW_some] <;> rfl) | (simp [*, errW_none, errW_some] <;> rfl), by repeat (first | (with_reducible first | exact HB.out | apply below_alloc | apply pw_below_drewN | apply below_drew1) | exact HB.out)⟩
                        · rw [if_neg c44] at H
                          have c44b0 : (t200 == t198) = false := by simpa using c44
                          (try (have c44b1 : decide (t200 = t198) = false := by simpa using c44))
                          (try (have c44b2 : (t200 == t198) = false := by simpa using c44))
                          (try (have c44b3 : ¬ (t200 = t198) := by simpa using c44))
                          clear c44
                          obtain rfl := Option.some.inj H
                          go_wp2_with (first | ((with_reducible refine gate_callee (f := 12) rfl ?_); refine goesL_ (some 87) rfl rfl Tryd.func12 (by kernel_rfl) rfl #[.string a0] rfl (by (try simp only [List.map_toArray, List.map_cons, List.map_nil]); first | done | rfl | (simp only [List.length_drop, List.length_take]; rfl)) ?_; (with_reducible refine (estafetteref01_Canon.calls k2 a0 t197 t198 _ A36.out).mono ?_); rintro e w52 ⟨rfl, hb⟩; refine ⟨_, rfl, ?_⟩; have n0_ := Aside0.mk (below_step (by repeat (first | (with_reducible first | exact HB.out | apply below_alloc | apply pw_below_drewN | apply below_drew1) | exact HB.out)) hb); clear HB; have HB := n0_; clear n0_; (try clear hb); (try clear hb2); (try clear hk); (try clear hi)) | ((with_reducible refine gate_callee (f := 17) rfl ?_); refine goesL_ (some 96) rfl rfl Tryd.func17 (by kernel_rfl) rfl #[.string (((x5_2 ++ (⟨#[58]⟩ : ByteArray)) ++ a0) ++ (⟨#[62]⟩ : ByteArray))] rfl (by (try simp only [List.map_toArray, List.map_cons, List.map_nil]); first | done | rfl | (simp only [List.length_drop, List.length_take]; rfl)) ?_; (with_reducible refine (addr_Path.calls k2 (((x5_2 ++ (⟨#[58]⟩ : ByteArray)) ++ a0) ++ (⟨#[62]⟩ : ByteArray)) t199 t200 _ A40.out).mono ?_); rintro e w53 ⟨rfl, hb⟩; refine ⟨_, rfl, ?_⟩; have n0_ := Aside0.mk (below_step (by repeat (first | (with_reducible first | exact HB.out | apply below_alloc | apply pw_below_drewN | apply below_drew1) | exact HB.out)) hb); clear HB; have HB := n0_; clear n0_; (try clear hb); (try clear hb2); (try clear hk); (try clear hi)) | ((with_reducible refine gate_callee (f := 8) rfl ?_); refine goesL_ (some 99) rfl rfl Tryd.func8 (by kernel_rfl) rfl #[] rfl (by (try simp only [List.map_toArray, List.map_cons, List.map_nil]); first | done | rfl | (simp only [List.length_drop, List.length_take]; rfl)) ?_; (with_reducible refine (estafettelaw01_answers.calls k2  true _ A41.out).mono ?_); rintro e w54 ⟨rfl, hb⟩; refine ⟨_, rfl, ?_⟩; have n0_ := Aside0.mk (below_step (by repeat (first | (with_reducible first | exact HB.out | apply below_alloc | apply pw_below_drewN | apply below_drew1) | exact HB.out)) hb); clear HB; have HB := n0_; clear n0_; (try clear hb); (try clear hb2); (try clear hk); (try clear hi)))
                          go_ret
                          exact ⟨by first | rfl | (simp [errW_none, errW_some] <;> rfl) | (simp [*, errW_none, errW_some] <;> rfl), by repeat (first | (with_reducible first | exact HB.out | apply below_alloc | apply pw_below_drewN | apply below_drew1) | exact HB.out)⟩
                      · replace c43 := Bool.eq_false_iff.mpr c43
                        subst c43
                        have H1 : (if (t200 == false) = true then (if t200 = true then (some (t199.toList == t197.toList)) else (some true)) else (some false)) = some r := by rw [if_neg (show ¬ (false = true) by decide)] at H; exact H
                        clear H
                        have H := H1
                        clear H1
                        by_cases c55 : (t200 == false) = true
                        · rw [if_pos c55] at H
                          have c55b0 : (t200 == false) = true := c55
                          (try (have c55b1 : decide (t200 = false) = true := by simpa using c55))
                          (try (have c55b2 : (t200 == false) = true := by simpa using c55))
                          clear c55
                          by_cases c56 : t200 = true
                          · subst c56
                            have H1 : (some (t199.toList == t197.toList)) = some r := by rw [if_pos rfl] at H; exact H
                            clear H
                            have H := H1
                            clear H1
                            obtain rfl := Option.some.inj H
                            go_wp2_with (first | ((with_reducible refine gate_callee (f := 12) rfl ?_); refine goesL_ (some 87) rfl rfl Tryd.func12 (by kernel_rfl) rfl #[.string a0] rfl (by (try simp only [List.map_toArray, List.map_cons, List.map_nil]); first | done | rfl | (simp only [List.length_drop, List.length_take]; rfl)) ?_; (with_reducible refine (estafetteref01_Canon.calls k2 a0 t197 t198 _ A36.out).mono ?_); rintro e w57 ⟨rfl, hb⟩; refine ⟨_, rfl, ?_⟩; have n0_ := Aside0.mk (below_step (by repeat (first | (with_reducible first | exact HB.out | apply below_alloc | apply pw_below_drewN | apply below_drew1) | exact HB.out)) hb); clear HB; have HB := n0_; clear n0_; (try clear hb); (try clear hb2); (try clear hk); (try clear hi)) | ((with_reducible refine gate_callee (f := 17) rfl ?_); refine goesL_ (some 96) rfl rfl Tryd.func17 (by kernel_rfl) rfl #[.string (((x5_2 ++ (⟨#[58]⟩ : ByteArray)) ++ a0) ++ (⟨#[62]⟩ : ByteArray))] rfl (by (try simp only [List.map_toArray, List.map_cons, List.map_nil]); first | done | rfl | (simp only [List.length_drop, List.length_take]; rfl)) ?_; (with_reducible refine (addr_Path.calls k2 (((x5_2 ++ (⟨#[58]⟩ : ByteArray)) ++ a0) ++ (⟨#[62]⟩ : ByteArray)) t199 true _ A40.out).mono ?_); rintro e w58 ⟨rfl, hb⟩; refine ⟨_, rfl, ?_⟩; have n0_ := Aside0.mk (below_step (by repeat (first | (with_reducible first | exact HB.out | apply below_alloc | apply pw_below_drewN | apply below_drew1) | exact HB.out)) hb); clear HB; have HB := n0_; clear n0_; (try clear hb); (try clear hb2); (try clear hk); (try clear hi)) | ((with_reducible refine gate_callee (f := 8) rfl ?_); refine goesL_ (some 99) rfl rfl Tryd.func8 (by kernel_rfl) rfl #[] rfl (by (try simp only [List.map_toArray, List.map_cons, List.map_nil]); first | done | rfl | (simp only [List.length_drop, List.length_take]; rfl)) ?_; (with_reducible refine (estafettelaw01_answers.calls k2  true _ A41.out).mono ?_); rintro e w59 ⟨rfl, hb⟩; refine ⟨_, rfl, ?_⟩; have n0_ := Aside0.mk (below_step (by repeat (first | (with_reducible first | exact HB.out | apply below_alloc | apply pw_below_drewN | apply below_drew1) | exact HB.out)) hb); clear HB; have HB := n0_; clear n0_; (try clear hb); (try clear hb2); (try clear hk); (try clear hi)))
                            go_ret
                            exact ⟨by first | rfl | (simp [errW_none, errW_some] <;> rfl) | (simp [*, errW_none, errW_some] <;> rfl), by repeat (first | (with_reducible first | exact HB.out | apply below_alloc | apply pw_below_drewN | apply below_drew1) | exact HB.out)⟩
                          · replace c56 := Bool.eq_false_iff.mpr c56
                            subst c56
                            have H1 : (some true) = some r := by rw [if_neg (show ¬ (false = true) by decide)] at H; exact H
                            clear H
                            have H := H1
                            clear H1
                            obtain rfl := Option.some.inj H
                            go_wp2_with (first | ((with_reducible refine gate_callee (f := 12) rfl ?_); refine goesL_ (some 87) rfl rfl Tryd.func12 (by kernel_rfl) rfl #[.string a0] rfl (by (try simp only [List.map_toArray, List.map_cons, List.map_nil]); first | done | rfl | (simp only [List.length_drop, List.length_take]; rfl)) ?_; (with_reducible refine (estafetteref01_Canon.calls k2 a0 t197 t198 _ A36.out).mono ?_); rintro e w60 ⟨rfl, hb⟩; refine ⟨_, rfl, ?_⟩; have n0_ := Aside0.mk (below_step (by repeat (first | (with_reducible first | exact HB.out | apply below_alloc | apply pw_below_drewN | apply below_drew1) | exact HB.out)) hb); clear HB; have HB := n0_; clear n0_; (try clear hb); (try clear hb2); (try clear hk); (try clear hi)) | ((with_reducible refine gate_callee (f := 17) rfl ?_); refine goesL_ (some 96) rfl rfl Tryd.func17 (by kernel_rfl) rfl #[.string (((x5_2 ++ (⟨#[58]⟩ : ByteArray)) ++ a0) ++ (⟨#[62]⟩ : ByteArray))] rfl (by (try simp only [List.map_toArray, List.map_cons, List.map_nil]); first | done | rfl | (simp only [List.length_drop, List.length_take]; rfl)) ?_; (with_reducible refine (addr_Path.calls k2 (((x5_2 ++ (⟨#[58]⟩ : ByteArray)) ++ a0) ++ (⟨#[62]⟩ : ByteArray)) t199 false _ A40.out).mono ?_); rintro e w61 ⟨rfl, hb⟩; refine ⟨_, rfl, ?_⟩; have n0_ := Aside0.mk (below_step (by repeat (first | (with_reducible first | exact HB.out | apply below_alloc | apply pw_below_drewN | apply below_drew1) | exact HB.out)) hb); clear HB; have HB := n0_; clear n0_; (try clear hb); (try clear hb2); (try clear hk); (try clear hi)) | ((with_reducible refine gate_callee (f := 8) rfl ?_); refine goesL_ (some 99) rfl rfl Tryd.func8 (by kernel_rfl) rfl #[] rfl (by (try simp only [List.map_toArray, List.map_cons, List.map_nil]); first | done | rfl | (simp only [List.length_drop, List.length_take]; rfl)) ?_; (with_reducible refine (estafettelaw01_answers.calls k2  true _ A41.out).mono ?_); rintro e w62 ⟨rfl, hb⟩; refine ⟨_, rfl, ?_⟩; have n0_ := Aside0.mk (below_step (by repeat (first | (with_reducible first | exact HB.out | apply below_alloc | apply pw_below_drewN | apply below_drew1) | exact HB.out)) hb); clear HB; have HB := n0_; clear n0_; (try clear hb); (try clear hb2); (try clear hk); (try clear hi)))
                            go_ret
                            exact ⟨by first | rfl | (simp [errW_none, errW_some] <;> rfl) | (simp [*, errW_none, errW_some] <;> rfl), by repeat (first | (with_reducible first | exact HB.out | apply below_alloc | apply pw_below_drewN | apply below_drew1) | exact HB.out)⟩
                        · rw [if_neg c55] at H
                          have c55b0 : (t200 == false) = false := by simpa using c55
                          (try (have c55b1 : decide (t200 = false) = false := by simpa using c55))
                          (try (have c55b2 : (t200 == false) = false := by simpa using c55))
                          (try (have c55b3 : ¬ (t200 = false) := by simpa using c55))
                          clear c55
                          obtain rfl := Option.some.inj H
                          go_wp2_with (first | ((with_reducible refine gate_callee (f := 12) rfl ?_); refine goesL_ (some 87) rfl rfl Tryd.func12 (by kernel_rfl) rfl #[.string a0] rfl (by (try simp only [List.map_toArray, List.map_cons, List.map_nil]); first | done | rfl | (simp only [List.length_drop, List.length_take]; rfl)) ?_; (with_reducible refine (estafetteref01_Canon.calls k2 a0 t197 t198 _ A36.out).mono ?_); rintro e w63 ⟨rfl, hb⟩; refine ⟨_, rfl, ?_⟩; have n0_ := Aside0.mk (below_step (by repeat (first | (with_reducible first | exact HB.out | apply below_alloc | apply pw_below_drewN | apply below_drew1) | exact HB.out)) hb); clear HB; have HB := n0_; clear n0_; (try clear hb); (try clear hb2); (try clear hk); (try clear hi)) | ((with_reducible refine gate_callee (f := 17) rfl ?_); refine goesL_ (some 96) rfl rfl Tryd.func17 (by kernel_rfl) rfl #[.string (((x5_2 ++ (⟨#[58]⟩ : ByteArray)) ++ a0) ++ (⟨#[62]⟩ : ByteArray))] rfl (by (try simp only [List.map_toArray, List.map_cons, List.map_nil]); first | done | rfl | (simp only [List.length_drop, List.length_take]; rfl)) ?_; (with_reducible refine (addr_Path.calls k2 (((x5_2 ++ (⟨#[58]⟩ : ByteArray)) ++ a0) ++ (⟨#[62]⟩ : ByteArray)) t199 t200 _ A40.out).mono ?_); rintro e w64 ⟨rfl, hb⟩; refine ⟨_, rfl, ?_⟩; have n0_ := Aside0.mk (below_step (by repeat (first | (with_reducible first | exact HB.out | apply below_alloc | apply pw_below_drewN | apply below_drew1) | exact HB.out)) hb); clear HB; have HB := n0_; clear n0_; (try clear hb); (try clear hb2); (try clear hk); (try clear hi)) | ((with_reducible refine gate_callee (f := 8) rfl ?_); refine goesL_ (some 99) rfl rfl Tryd.func8 (by kernel_rfl) rfl #[] rfl (by (try simp only [List.map_toArray, List.map_cons, List.map_nil]); first | done | rfl | (simp only [List.length_drop, List.length_take]; rfl)) ?_; (with_reducible refine (estafettelaw01_answers.calls k2  true _ A41.out).mono ?_); rintro e w65 ⟨rfl, hb⟩; refine ⟨_, rfl, ?_⟩; have n0_ := Aside0.mk (below_step (by repeat (first | (with_reducible first | exact HB.out | apply below_alloc | apply pw_below_drewN | apply below_drew1) | exact HB.out)) hb); clear HB; have HB := n0_; clear n0_; (try clear hb); (try clear hb2); (try clear hk); (try clear hi)))
                          go_ret
                          exact ⟨by first | rfl | (simp [errW_none, errW_some] <;> rfl) | (simp [*, errW_none, errW_some] <;> rfl), by repeat (first | (with_reducible first | exact HB.out | apply below_alloc | apply pw_below_drewN | apply below_drew1) | exact HB.out)⟩
                    · replace c42 := Bool.eq_false_iff.mpr c42
                      subst c42
                      have H1 : (some false) = some r := by rw [if_neg (show ¬ (false = true) by decide)] at H; exact H
                      clear H
                      have H := H1
                      clear H1
                      obtain rfl := Option.some.inj H
                      go_wp2_with (first | ((with_reducible refine gate_callee (f := 12) rfl ?_); refine goesL_ (some 87) rfl rfl Tryd.func12 (by kernel_rfl) rfl #[.string a0] rfl (by (try simp only [List.map_toArray, List.map_cons, List.map_nil]); first | done | rfl | (simp only [List.length_drop, List.length_take]; rfl)) ?_; (with_reducible refine (estafetteref01_Canon.calls k2 a0 t197 t198 _ A36.out).mono ?_); rintro e w66 ⟨rfl, hb⟩; refine ⟨_, rfl, ?_⟩; have n0_ := Aside0.mk (below_step (by repeat (first | (with_reducible first | exact HB.out | apply below_alloc | apply pw_below_drewN | apply below_drew1) | exact HB.out)) hb); clear HB; have HB := n0_; clear n0_; (try clear hb); (try clear hb2); (try clear hk); (try clear hi)) | ((with_reducible refine gate_callee (f := 17) rfl ?_); refine goesL_ (some 96) rfl rfl Tryd.func17 (by kernel_rfl) rfl #[.string (((x5_2 ++ (⟨#[58]⟩ : ByteArray)) ++ a0) ++ (⟨#[62]⟩ : ByteArray))] rfl (by (try simp only [List.map_toArray, List.map_cons, List.map_nil]); first | done | rfl | (simp only [List.length_drop, List.length_take]; rfl)) ?_; (with_reducible refine (addr_Path.calls k2 (((x5_2 ++ (⟨#[58]⟩ : ByteArray)) ++ a0) ++ (⟨#[62]⟩ : ByteArray)) t199 t200 _ A40.out).mono ?_); rintro e w67 ⟨rfl, hb⟩; refine ⟨_, rfl, ?_⟩; have n0_ := Aside0.mk (below_step (by repeat (first | (with_reducible first | exact HB.out | apply below_alloc | apply pw_below_drewN | apply below_drew1) | exact HB.out)) hb); clear HB; have HB := n0_; clear n0_; (try clear hb); (try clear hb2); (try clear hk); (try clear hi)) | ((with_reducible refine gate_callee (f := 8) rfl ?_); refine goesL_ (some 99) rfl rfl Tryd.func8 (by kernel_rfl) rfl #[] rfl (by (try simp only [List.map_toArray, List.map_cons, List.map_nil]); first | done | rfl | (simp only [List.length_drop, List.length_take]; rfl)) ?_; (with_reducible refine (estafettelaw01_answers.calls k2  false _ A41.out).mono ?_); rintro e w68 ⟨rfl, hb⟩; refine ⟨_, rfl, ?_⟩; have n0_ := Aside0.mk (below_step (by repeat (first | (with_reducible first | exact HB.out | apply below_alloc | apply pw_below_drewN | apply below_drew1) | exact HB.out)) hb); clear HB; have HB := n0_; clear n0_; (try clear hb); (try clear hb2); (try clear hk); (try clear hi)))
                      go_ret
                      exact ⟨by first | rfl | (simp [errW_none, errW_some] <;> rfl) | (simp [*, errW_none, errW_some] <;> rfl), by repeat (first | (with_reducible first | exact HB.out | apply below_alloc | apply pw_below_drewN | apply below_drew1) | exact HB.out)⟩
                  · rw [if_neg c39] at H
                    exact absurd H (by simp)
                · rw [if_neg c38] at H
                  exact absurd H (by simp)
              · rw [if_neg c37] at H
                exact absurd H (by simp)
/-- THE ONE PURE STATEMENT of estafettelaw01_AddrRoutes: yours. -/
def estafettelaw01_AddrRoutes.Pure : Prop := ∀ (x0 : ByteArray) (x1 : List ByteArray), x0.size ≤ 140737488351232 → (x1.length * 16 ≤ 140737488351232 ∧ ∀ e0 ∈ x1, e0.size ≤ 140737488351232) → ∃ k, estafettelaw01_AddrRoutes.f k x0 x1 = some true

end Go.Proofs.YtikfdngidbppbaaDoor.PB
