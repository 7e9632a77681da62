/- For every input: what the functions below return, or the statement that this text proves. Written by a program of this claim.s author (a turned print). -/
import Derived.Test.YtpkeplifflnemaaDoorPFx0
namespace Go.Proofs.YtpkeplifflnemaaDoor.PF
open Go.RowKit Go.Proofs.YtpkeplifflnemaaDoorW.PrintWords Go.Proofs.YtpkeplifflnemaaDoorW.PrintLast Go.Proofs.YtpkeplifflnemaaDoorW.PrintMore
open Go.Proofs.YtpkeplifflnemaaDoor.PB Go.Proofs.YtpkeplifflnemaaDoor.PC
attribute [local go_sem] max2_int min2_int max_two min_two max_three min_three max_four min_four   -- for this text's walks alone
set_option linter.unusedVariables false
set_option linter.unusedSimpArgs false

/-! ### estafettelaw18_RuleDomains: function 5 -/
def estafettelaw18_RuleDomains.j0 : Nat → ByteArray → ByteArray → ByteArray → Bool → Option (Bool)
  | 0, _, _, _, _ => none
  | k + 1, x0, x1, x2, x36 => if x36 = true then ((PC.estafettelaw18_answers.f).bind fun t104 => (some t104)) else ((Hand.ref_Lower.f x1).bind fun t105 => ((some (([(⟨true, t105⟩ : S34)] : List (S34)) : List (S34))).bind fun y106 => ((Hand.ref_Lower.f x1).bind fun t110 => ((Hand.ref_Lower.f x2).bind fun t111 => ((PC.estafettelaw18_answers.f).bind fun t112 => (if t112 = true then (if x0.size + 1 ≤ 9223372036854775807 then ((Hand.ref_Upper.f x1).bind fun t113 => (if (x0 ++ (⟨#[64]⟩ : ByteArray)).size + t113.size ≤ 9223372036854775807 then ((PC.rule_From.f ([] : List (S88)) ([] : List (S90)) y106 0 ((x0 ++ (⟨#[64]⟩ : ByteArray)) ++ t113) 0).bind fun t114 => (if t114 = 550 then (if (x0 ++ (⟨#[64]⟩ : ByteArray)).size + x2.size ≤ 9223372036854775807 then ((PC.rule_From.f ([] : List (S88)) ([] : List (S90)) y106 0 ((x0 ++ (⟨#[64]⟩ : ByteArray)) ++ x2) 0).bind fun t115 => (if ((t115 == 550) == (t110.toList == t111.toList)) = true then (if (x1.size : Int) > 200 then (if (x0 ++ (⟨#[64]⟩ : ByteArray)).size + x1.size ≤ 9223372036854775807 then ((PC.rule_Rcpt.f ([] : List (S88)) ([] : List (S90)) y106 0 ((x0 ++ (⟨#[64]⟩ : ByteArray)) ++ x1)).bind fun t116 => (some (t116 == 250))) else (none)) else (if x0.size + 3 ≤ 9223372036854775807 then (if (x0 ++ (⟨#[64, 97, 46]⟩ : ByteArray)).size + x1.size ≤ 9223372036854775807 then ((PC.rule_From.f ([] : List (S88)) ([] : List (S90)) y106 0 ((x0 ++ (⟨#[64, 97, 46]⟩ : ByteArray)) ++ x1) 0).bind fun t117 => (if t117 = 250 then (if (x0 ++ (⟨#[64]⟩ : ByteArray)).size + x1.size ≤ 9223372036854775807 then ((PC.rule_Rcpt.f ([] : List (S88)) ([] : List (S90)) y106 0 ((x0 ++ (⟨#[64]⟩ : ByteArray)) ++ x1)).bind fun t118 => (some (t118 == 250))) else (none)) else (some false))) else (none)) else (none))) else (some false))) else (none)) else (some false))) else (none))) else (none)) else (some false)))))))
def estafettelaw18_RuleDomains.f (k : Nat) (a0 : ByteArray) (a1 : ByteArray) (a2 : ByteArray) : Option (Bool) := if (a0.size : Int) > 100 then (estafettelaw18_RuleDomains.j0 k a0 a1 a2 true) else (if (a1.size : Int) > 200 then (estafettelaw18_RuleDomains.j0 k a0 a1 a2 true) else (if (a2.size : Int) > 200 then (estafettelaw18_RuleDomains.j0 k a0 a1 a2 true) else ((PB.estafetteref01_Local.f k a0).bind fun t101 => (if t101 = true then ((PB.estafetteref01_Domain.f k a1).bind fun t102 => (if t102 = true then ((PB.estafetteref01_Domain.f k a2).bind fun t103 => (estafettelaw18_RuleDomains.j0 k a0 a1 a2 (!t103))) else (estafettelaw18_RuleDomains.j0 k a0 a1 a2 true))) else (estafettelaw18_RuleDomains.j0 k a0 a1 a2 true)))))
theorem estafettelaw18_RuleDomains.mono_l : ∀ k, (∀ y0 y1 y2 y3, LeO (estafettelaw18_RuleDomains.j0 k y0 y1 y2 y3) (estafettelaw18_RuleDomains.j0 (k + 1) y0 y1 y2 y3))
  | 0 => fun _ _ _ _ r h => by simp [estafettelaw18_RuleDomains.j0] at h
  | k + 1 => by
    have ih0 := estafettelaw18_RuleDomains.mono_l k
    · intro y0 y1 y2 y3
      unfold estafettelaw18_RuleDomains.j0
      repeat' first
      | (with_reducible exact ih0 _ _ _ _)
      | (with_reducible exact PB.estafetteref01_Domain.mono _ _)
      | (with_reducible exact PB.estafetteref01_Local.mono _ _)
      | (with_reducible exact LeO.refl _)
      | (with_reducible exact LeO.none _)
      | (with_reducible refine LeO.ite ?_ ?_)
      | (with_reducible refine LeO.bind ?_ (fun _ => ?_))
      | exact ih0 _ _ _ _
      | exact PB.estafetteref01_Domain.mono _ _
      | exact PB.estafetteref01_Local.mono _ _
      | exact LeO.none _
      | refine LeO.ite ?_ ?_
      | refine LeO.bind ?_ (fun _ => ?_)
theorem estafettelaw18_RuleDomains.mono : ∀ a0 a1 a2 k, LeO (estafettelaw18_RuleDomains.f k a0 a1 a2) (estafettelaw18_RuleDomains.f (k + 1) a0 a1 a2) := by
  intro a0 a1 a2 k
  have ih0 := estafettelaw18_RuleDomains.mono_l k
  unfold estafettelaw18_RuleDomains.f
  repeat' first
      | (with_reducible exact ih0 _ _ _ _)
      | (with_reducible exact PB.estafetteref01_Domain.mono _ _)
      | (with_reducible exact PB.estafetteref01_Local.mono _ _)
      | (with_reducible exact LeO.refl _)
      | (with_reducible exact LeO.none _)
      | (with_reducible refine LeO.ite ?_ ?_)
      | (with_reducible refine LeO.bind ?_ (fun _ => ?_))
      | exact ih0 _ _ _ _
      | exact PB.estafetteref01_Domain.mono _ _
      | exact PB.estafetteref01_Local.mono _ _
      | exact LeO.none _
      | refine LeO.ite ?_ ?_
      | refine LeO.bind ?_ (fun _ => ?_)
def estafettelaw18_RuleDomains.T5 : Bool × List (List Nat × List Nat) := (true, [([], []), ([0, 0], [0]), ([1], [1]), ([1], [1]), ([3, 1], [1, 3]), ([1], [1]), ([5, 1, 1], [1, 5]), ([4, 6, 1], [1, 4, 6]), ([2, 7, 6, 1], [1, 2, 7]), ([8, 1], [1, 8]), ([1, 9], [1, 9]), ([10, 8], [10]), ([11], [11]), ([11], [11]), ([13, 11], [11, 13]), ([11], [11]), ([14, 15, 11], [11, 14, 15]), ([12, 16, 11, 11], [11, 12, 16]), ([17, 11], [11, 17]), ([11], [11]), ([18, 19, 11], [11, 18, 19]), ([11, 20], [11, 20]), ([21, 17], [21]), ([22], [22]), ([23, 22], [22, 23]), ([24, 22], [22, 24]), ([25, 22, 22], [22, 25]), ([26], [26]), ([26], [26]), ([28, 26], [26, 28]), ([26], [26]), ([29, 30, 26], [26, 29, 30]), ([27, 31, 26, 26], [26, 27, 31]), ([32, 26], [26, 32]), ([26, 33, 22], [22, 26, 33]), ([22, 34], [22, 34]), ([35, 32], [35]), ([36], [36]), ([36], [36]), ([38, 36], [36, 38]), ([36], [36]), ([39, 40, 36], [36, 39, 40]), ([37, 41, 36, 36], [36, 37, 41]), ([42, 36], [36, 42]), ([36, 43], [36, 43]), ([44, 42, 0, 1, 2, 3, 4, 5, 6, 7, 8, 9, 10, 11, 12, 13, 14, 15, 16, 17, 18, 19, 20, 21, 22, 23, 24, 25, 26, 27, 28, 29, 30, 31, 32, 33, 34, 35, 36, 37, 38, 39, 40, 41, 42, 43, 44], [44])])
def estafettelaw18_RuleDomains.B5 : List Nat := [0, 1, 3, 3, 11, 3, 35, 123, 255, 511, 1023, 2047, 4095, 4095, 12287, 4095, 61439, 131071, 262143, 4095, 1048575, 2097151, 4194303, 8388607, 16777215, 33554431, 67108863, 134217727, 134217727, 402653183, 134217727, 2013265919, 4294967295, 8589934591, 17179869183, 34359738367, 68719476735, 137438953471, 137438953471, 412316860415, 137438953471, 2061584302079, 4398046511103, 8796093022207, 17592186044415, 35184372088831]
theorem estafettelaw18_RuleDomains.tab5 : rtab .any (opsOf Tryd.f5 5) = estafettelaw18_RuleDomains.T5 := by kernel_rfl
theorem estafettelaw18_RuleDomains.bits5 : waitsOk estafettelaw18_RuleDomains.T5.2 estafettelaw18_RuleDomains.B5 = true := by kernel_rfl
set_option maxHeartbeats 8000000 in
set_option maxRecDepth 100000 in
theorem estafettelaw18_RuleDomains.calls (k : Nat) (a0 : ByteArray) (a1 : ByteArray) (a2 : ByteArray) (r : Bool) (hr_ : r = true) (w : World) (h : estafettelaw18_RuleDomains.f k a0 a1 a2 = some r) :
    Calls Tryd.prog 5 #[.string a0, .string a1, .string a2] w fun e w' => e = .returned (.bool r) ∧ Below w.heap.size w w' := by
  replace hr_ := Aside0.mk hr_
  have hu34 := Tryd.underlying34
  have hu26 := Tryd.underlying26
  have HB := Aside0.mk (Below.refl w.heap.size w)
  have H : (if (a0.size : Int) > 100 then (estafettelaw18_RuleDomains.j0 k a0 a1 a2 true) else (if (a1.size : Int) > 200 then (estafettelaw18_RuleDomains.j0 k a0 a1 a2 true) else (if (a2.size : Int) > 200 then (estafettelaw18_RuleDomains.j0 k a0 a1 a2 true) else ((PB.estafetteref01_Local.f k a0).bind fun t101 => (if t101 = true then ((PB.estafetteref01_Domain.f k a1).bind fun t102 => (if t102 = true then ((PB.estafetteref01_Domain.f k a2).bind fun t103 => (estafettelaw18_RuleDomains.j0 k a0 a1 a2 (!t103))) else (estafettelaw18_RuleDomains.j0 k a0 a1 a2 true))) else (estafettelaw18_RuleDomains.j0 k a0 a1 a2 true)))))) = some r := h
  clear h
  have HC4 := Aside0.mk H
  clear H
  go_enter Tryd.func5, Tryd.ntmps5
  go_upto_region 1 with (fail)
  go_cut [36] (fun v36 wc => ∃ (kq : Nat) (x36_3 : Bool), v36 = .bool x36_3 ∧ Aside0 (estafettelaw18_RuleDomains.j0 kq a0 a1 a2 x36_3 = some r) ∧ Aside0 (kq ≤ k) ∧ Aside0 (Below w.heap.size w wc))
  case first =>
    have H := HC4.out
    clear HC4
    by_cases c5 : (a0.size : Int) > 100
    · rw [if_pos c5] at H
      have c5b0 : decide (100 < (a0.size : Int)) = true := decide_eq_true c5
      have c5b1 : decide (100 < a0.size) = true := decide_eq_true (by omega)
      clear c5
      (first | rw [c5b0] | (simp only [i64_w, i32_w]; rw [c5b0]) | skip)
      have H' := Aside0.mk H
      clear H
      go_wp2
      go_meet
      case rel => exact ⟨_, (true), (by first | rfl | (simp; done) | (simp [*]; done)), H', ⟨by first | omega | exact Nat.le_refl _⟩, ⟨by repeat (first | (with_reducible first | exact HB.out | apply below_alloc | apply pw_below_drewN | apply below_drew1) | exact HB.out)⟩⟩
    · rw [if_neg c5] at H
      have c5b0 : decide (100 < (a0.size : Int)) = false := decide_eq_false c5
      have c5b1 : decide (100 < a0.size) = false := decide_eq_false (by omega)
      clear c5
      (first | rw [c5b0] | (simp only [i64_w, i32_w]; rw [c5b0]) | skip)
      by_cases c6 : (a1.size : Int) > 200
      · rw [if_pos c6] at H
        have c6b0 : decide (200 < (a1.size : Int)) = true := decide_eq_true c6
        have c6b1 : decide (200 < a1.size) = true := decide_eq_true (by omega)
        clear c6
        have H' := Aside0.mk H
        clear H
        go_wp2
        go_meet
        case rel => exact ⟨_, (true), (by first | rfl | (simp; done) | (simp [*]; done)), H', ⟨by first | omega | exact Nat.le_refl _⟩, ⟨by repeat (first | (with_reducible first | exact HB.out | apply below_alloc | apply pw_below_drewN | apply below_drew1) | exact HB.out)⟩⟩
      · rw [if_neg c6] at H
        have c6b0 : decide (200 < (a1.size : Int)) = false := decide_eq_false c6
        have c6b1 : decide (200 < a1.size) = false := decide_eq_false (by omega)
        clear c6
        by_cases c7 : (a2.size : Int) > 200
        · rw [if_pos c7] at H
          have c7b0 : decide (200 < (a2.size : Int)) = true := decide_eq_true c7
          have c7b1 : decide (200 < a2.size) = true := decide_eq_true (by omega)
          clear c7
          have H' := Aside0.mk H
          clear H
          go_wp2
          go_meet
          case rel => exact ⟨_, (true), (by first | rfl | (simp; done) | (simp [*]; done)), H', ⟨by first | omega | exact Nat.le_refl _⟩, ⟨by repeat (first | (with_reducible first | exact HB.out | apply below_alloc | apply pw_below_drewN | apply below_drew1) | exact HB.out)⟩⟩
        · rw [if_neg c7] at H
          have c7b0 : decide (200 < (a2.size : Int)) = false := decide_eq_false c7
          have c7b1 : decide (200 < a2.size) = false := decide_eq_false (by omega)
          clear c7
          replace H := Option.bind_eq_some_iff.mp H
          obtain ⟨t101, A80, H⟩ := H
          replace H : (if t101 = true then ((PB.estafetteref01_Domain.f k a1).bind fun t102 => (if t102 = true then ((PB.estafetteref01_Domain.f k a2).bind fun t103 => (estafettelaw18_RuleDomains.j0 k a0 a1 a2 (!t103))) else (estafettelaw18_RuleDomains.j0 k a0 a1 a2 true))) else (estafettelaw18_RuleDomains.j0 k a0 a1 a2 true)) = some r := H
          have A8 := Aside0.mk A80
          clear A80
          by_cases c9 : t101 = true
          · subst c9
            have H1 : ((PB.estafetteref01_Domain.f k a1).bind fun t102 => (if t102 = true then ((PB.estafetteref01_Domain.f k a2).bind fun t103 => (estafettelaw18_RuleDomains.j0 k a0 a1 a2 (!t103))) else (estafettelaw18_RuleDomains.j0 k a0 a1 a2 true))) = some r := by rw [if_pos rfl] at H; exact H
            clear H
            have H := H1
            clear H1
            replace H := Option.bind_eq_some_iff.mp H
            obtain ⟨t102, A100, H⟩ := H
            replace H : (if t102 = true then ((PB.estafetteref01_Domain.f k a2).bind fun t103 => (estafettelaw18_RuleDomains.j0 k a0 a1 a2 (!t103))) else (estafettelaw18_RuleDomains.j0 k a0 a1 a2 true)) = some r := H
            have A10 := Aside0.mk A100
            clear A100
            by_cases c11 : t102 = true
            · subst c11
              have H1 : ((PB.estafetteref01_Domain.f k a2).bind fun t103 => (estafettelaw18_RuleDomains.j0 k a0 a1 a2 (!t103))) = some r := by rw [if_pos rfl] at H; exact H
              clear H
              have H := H1
              clear H1
              replace H := Option.bind_eq_some_iff.mp H
              obtain ⟨t103, A120, H⟩ := H
              replace H : (estafettelaw18_RuleDomains.j0 k a0 a1 a2 (!t103)) = some r := H
              have A12 := Aside0.mk A120
              clear A120
              have H' := Aside0.mk H
              clear H
              go_wp2_with (first | (go_at_call 13; (with_reducible refine (PB.estafetteref01_Local.calls k a0 true _ A8.out).mono ?_); rintro e w13 ⟨rfl, hb⟩; have n0_ := Aside0.mk (below_step (by repeat (first | (with_reducible first | exact HB.out | apply below_alloc | apply pw_below_drewN | apply below_drew1) | exact HB.out)) hb); clear HB; have HB := n0_; clear n0_; (try clear hb); (try clear hb2); (try clear hk); (try clear hi)) | (go_at_call 14; (with_reducible refine (PB.estafetteref01_Domain.calls k a1 true _ A10.out).mono ?_); rintro e w14 ⟨rfl, hb⟩; have n0_ := Aside0.mk (below_step (by repeat (first | (with_reducible first | exact HB.out | apply below_alloc | apply pw_below_drewN | apply below_drew1) | exact HB.out)) hb); clear HB; have HB := n0_; clear n0_; (try clear hb); (try clear hb2); (try clear hk); (try clear hi)) | (go_at_call 14; (with_reducible refine (PB.estafetteref01_Domain.calls k a2 t103 _ A12.out).mono ?_); rintro e w15 ⟨rfl, hb⟩; have n0_ := Aside0.mk (below_step (by repeat (first | (with_reducible first | exact HB.out | apply below_alloc | apply pw_below_drewN | apply below_drew1) | exact HB.out)) hb); clear HB; have HB := n0_; clear n0_; (try clear hb); (try clear hb2); (try clear hk); (try clear hi)))
              go_meet
              case rel => exact ⟨_, (!t103), (by first | rfl | (simp; done) | (simp [*]; done)), H', ⟨by first | omega | exact Nat.le_refl _⟩, ⟨by repeat (first | (with_reducible first | exact HB.out | apply below_alloc | apply pw_below_drewN | apply below_drew1) | exact HB.out)⟩⟩
            · replace c11 := Bool.eq_false_iff.mpr c11
              subst c11
              have H1 : (estafettelaw18_RuleDomains.j0 k a0 a1 a2 true) = some r := by rw [if_neg (show ¬ (false = true) by decide)] at H; exact H
              clear H
              have H := H1
              clear H1
              have H' := Aside0.mk H
              clear H
              go_wp2_with (first | (go_at_call 13; (with_reducible refine (PB.estafetteref01_Local.calls k a0 true _ A8.out).mono ?_); rintro e w16 ⟨rfl, hb⟩; have n0_ := Aside0.mk (below_step (by repeat (first | (with_reducible first | exact HB.out | apply below_alloc | apply pw_below_drewN | apply below_drew1) | exact HB.out)) hb); clear HB; have HB := n0_; clear n0_; (try clear hb); (try clear hb2); (try clear hk); (try clear hi)) | (go_at_call 14; (with_reducible refine (PB.estafetteref01_Domain.calls k a1 false _ A10.out).mono ?_); rintro e w17 ⟨rfl, hb⟩; have n0_ := Aside0.mk (below_step (by repeat (first | (with_reducible first | exact HB.out | apply below_alloc | apply pw_below_drewN | apply below_drew1) | exact HB.out)) hb); clear HB; have HB := n0_; clear n0_; (try clear hb); (try clear hb2); (try clear hk); (try clear hi)))
              go_meet
              case rel => exact ⟨_, (true), (by first | rfl | (simp; done) | (simp [*]; done)), H', ⟨by first | omega | exact Nat.le_refl _⟩, ⟨by repeat (first | (with_reducible first | exact HB.out | apply below_alloc | apply pw_below_drewN | apply below_drew1) | exact HB.out)⟩⟩
          · replace c9 := Bool.eq_false_iff.mpr c9
            subst c9
            have H1 : (estafettelaw18_RuleDomains.j0 k a0 a1 a2 true) = some r := by rw [if_neg (show ¬ (false = true) by decide)] at H; exact H
            clear H
            have H := H1
            clear H1
            have H' := Aside0.mk H
            clear H
            go_wp2_with (first | (go_at_call 13; (with_reducible refine (PB.estafetteref01_Local.calls k a0 false _ A8.out).mono ?_); rintro e w18 ⟨rfl, hb⟩; have n0_ := Aside0.mk (below_step (by repeat (first | (with_reducible first | exact HB.out | apply below_alloc | apply pw_below_drewN | apply below_drew1) | exact HB.out)) hb); clear HB; have HB := n0_; clear n0_; (try clear hb); (try clear hb2); (try clear hk); (try clear hi)))
            go_meet
            case rel => exact ⟨_, (true), (by first | rfl | (simp; done) | (simp [*]; done)), H', ⟨by first | omega | exact Nat.le_refl _⟩, ⟨by repeat (first | (with_reducible first | exact HB.out | apply below_alloc | apply pw_below_drewN | apply below_drew1) | exact HB.out)⟩⟩
  case rest =>
    clear HC4
    try clear c1
    try clear p2
    try clear c5
    try clear c5b0
    try clear c5b1
    try clear c6
    try clear c6b0
    try clear c6b1
    try clear c7
    try clear c7b0
    try clear c7b1
    try clear c9
    try clear c11
    obtain ⟨kq, x36_3, rfl, HA, HJ3, HB⟩ := hcut
    cases kq with
    | zero => exact absurd HA.out (by simp [estafettelaw18_RuleDomains.j0])
    | succ kj3 =>
      have H := HA.out
      clear HA
      simp only [estafettelaw18_RuleDomains.j0] at H
      by_cases c19 : x36_3 = true
      · subst c19
        have H1 : ((PC.estafettelaw18_answers.f).bind fun t104 => (some t104)) = some r := by rw [if_pos rfl] at H; exact H
        clear H
        have H := H1
        clear H1
        replace H := Option.bind_eq_some_iff.mp H
        obtain ⟨t104, A200, H⟩ := H
        replace H : (some t104) = some r := H
        have A20 := Aside0.mk A200
        clear A200
        obtain rfl := Option.some.inj H
        go_wp2_with (first | ((with_reducible refine gate_callee (f := 7) rfl ?_); refine goesL_ (some 37) rfl rfl Tryd.func7 (by kernel_rfl) rfl #[] rfl (by (try simp only [List.map_toArray, List.map_cons, List.map_nil]); first | done | rfl | (simp only [List.length_drop, List.length_take]; rfl)) ?_; (with_reducible refine (PC.estafettelaw18_answers.calls  t104 _ A20.out).mono ?_); rintro e w21 ⟨rfl, hb⟩; refine ⟨_, rfl, ?_⟩; have n0_ := Aside0.mk (below_step (by repeat (first | (with_reducible first | exact HB.out | apply below_alloc | apply pw_below_drewN | apply below_drew1) | exact HB.out)) hb); clear HB; have HB := n0_; clear n0_; (try clear hb); (try clear hb2); (try clear hk); (try clear hi)))
        go_ret
        exact ⟨by first | rfl | (simp [errW_none, errW_some] <;> rfl) | (simp [*, errW_none, errW_some] <;> rfl), by repeat (first | (with_reducible first | exact HB.out | apply below_alloc | apply pw_below_drewN | apply below_drew1) | exact HB.out)⟩
      · replace c19 := Bool.eq_false_iff.mpr c19
        subst c19
        have H1 : ((Hand.ref_Lower.f a1).bind fun t105 => ((some (([(⟨true, t105⟩ : S34)] : List (S34)) : List (S34))).bind fun y106 => ((Hand.ref_Lower.f a1).bind fun t110 => ((Hand.ref_Lower.f a2).bind fun t111 => ((PC.estafettelaw18_answers.f).bind fun t112 => (if t112 = true then (if a0.size + 1 ≤ 9223372036854775807 then ((Hand.ref_Upper.f a1).bind fun t113 => (if (a0 ++ (⟨#[64]⟩ : ByteArray)).size + t113.size ≤ 9223372036854775807 then ((PC.rule_From.f ([] : List (S88)) ([] : List (S90)) y106 0 ((a0 ++ (⟨#[64]⟩ : ByteArray)) ++ t113) 0).bind fun t114 => (if t114 = 550 then (if (a0 ++ (⟨#[64]⟩ : ByteArray)).size + a2.size ≤ 9223372036854775807 then ((PC.rule_From.f ([] : List (S88)) ([] : List (S90)) y106 0 ((a0 ++ (⟨#[64]⟩ : ByteArray)) ++ a2) 0).bind fun t115 => (if ((t115 == 550) == (t110.toList == t111.toList)) = true then (if (a1.size : Int) > 200 then (if (a0 ++ (⟨#[64]⟩ : ByteArray)).size + a1.size ≤ 9223372036854775807 then ((PC.rule_Rcpt.f ([] : List (S88)) ([] : List (S90)) y106 0 ((a0 ++ (⟨#[64]⟩ : ByteArray)) ++ a1)).bind fun t116 => (some (t116 == 250))) else (none)) else (if a0.size + 3 ≤ 9223372036854775807 then (if (a0 ++ (⟨#[64, 97, 46]⟩ : ByteArray)).size + a1.size ≤ 9223372036854775807 then ((PC.rule_From.f ([] : List (S88)) ([] : List (S90)) y106 0 ((a0 ++ (⟨#[64, 97, 46]⟩ : ByteArray)) ++ a1) 0).bind fun t117 => (if t117 = 250 then (if (a0 ++ (⟨#[64]⟩ : ByteArray)).size + a1.size ≤ 9223372036854775807 then ((PC.rule_Rcpt.f ([] : List (S88)) ([] : List (S90)) y106 0 ((a0 ++ (⟨#[64]⟩ : ByteArray)) ++ a1)).bind fun t118 => (some (t118 == 250))) else (none)) else (some false))) else (none)) else (none))) else (some false))) else (none)) else (some false))) else (none))) else (none)) else (some false))))))) = some r := by rw [if_neg (show ¬ (false = true) by decide)] at H; exact H
        clear H
        have H := H1
        clear H1
        replace H := Option.bind_eq_some_iff.mp H
        obtain ⟨t105, A220, H⟩ := H
        replace H : ((some (([(⟨true, t105⟩ : S34)] : List (S34)) : List (S34))).bind fun y106 => ((Hand.ref_Lower.f a1).bind fun t110 => ((Hand.ref_Lower.f a2).bind fun t111 => ((PC.estafettelaw18_answers.f).bind fun t112 => (if t112 = true then (if a0.size + 1 ≤ 9223372036854775807 then ((Hand.ref_Upper.f a1).bind fun t113 => (if (a0 ++ (⟨#[64]⟩ : ByteArray)).size + t113.size ≤ 9223372036854775807 then ((PC.rule_From.f ([] : List (S88)) ([] : List (S90)) y106 0 ((a0 ++ (⟨#[64]⟩ : ByteArray)) ++ t113) 0).bind fun t114 => (if t114 = 550 then (if (a0 ++ (⟨#[64]⟩ : ByteArray)).size + a2.size ≤ 9223372036854775807 then ((PC.rule_From.f ([] : List (S88)) ([] : List (S90)) y106 0 ((a0 ++ (⟨#[64]⟩ : ByteArray)) ++ a2) 0).bind fun t115 => (if ((t115 == 550) == (t110.toList == t111.toList)) = true then (if (a1.size : Int) > 200 then (if (a0 ++ (⟨#[64]⟩ : ByteArray)).size + a1.size ≤ 9223372036854775807 then ((PC.rule_Rcpt.f ([] : List (S88)) ([] : List (S90)) y106 0 ((a0 ++ (⟨#[64]⟩ : ByteArray)) ++ a1)).bind fun t116 => (some (t116 == 250))) else (none)) else (if a0.size + 3 ≤ 9223372036854775807 then (if (a0 ++ (⟨#[64, 97, 46]⟩ : ByteArray)).size + a1.size ≤ 9223372036854775807 then ((PC.rule_From.f ([] : List (S88)) ([] : List (S90)) y106 0 ((a0 ++ (⟨#[64, 97, 46]⟩ : ByteArray)) ++ a1) 0).bind fun t117 => (if t117 = 250 then (if (a0 ++ (⟨#[64]⟩ : ByteArray)).size + a1.size ≤ 9223372036854775807 then ((PC.rule_Rcpt.f ([] : List (S88)) ([] : List (S90)) y106 0 ((a0 ++ (⟨#[64]⟩ : ByteArray)) ++ a1)).bind fun t118 => (some (t118 == 250))) else (none)) else (some false))) else (none)) else (none))) else (some false))) else (none)) else (some false))) else (none))) else (none)) else (some false)))))) = some r := H
        have A22 := Aside0.mk A220
        clear A220
        obtain ⟨y106, hy106⟩ : ∃ y_ : List (S34), y_ = (([(⟨true, t105⟩ : S34)] : List (S34))) := ⟨_, rfl⟩
        replace H : ((Hand.ref_Lower.f a1).bind fun t110 => ((Hand.ref_Lower.f a2).bind fun t111 => ((PC.estafettelaw18_answers.f).bind fun t112 => (if t112 = true then (if a0.size + 1 ≤ 9223372036854775807 then ((Hand.ref_Upper.f a1).bind fun t113 => (if (a0 ++ (⟨#[64]⟩ : ByteArray)).size + t113.size ≤ 9223372036854775807 then ((PC.rule_From.f ([] : List (S88)) ([] : List (S90)) y106 0 ((a0 ++ (⟨#[64]⟩ : ByteArray)) ++ t113) 0).bind fun t114 => (if t114 = 550 then (if (a0 ++ (⟨#[64]⟩ : ByteArray)).size + a2.size ≤ 9223372036854775807 then ((PC.rule_From.f ([] : List (S88)) ([] : List (S90)) y106 0 ((a0 ++ (⟨#[64]⟩ : ByteArray)) ++ a2) 0).bind fun t115 => (if ((t115 == 550) == (t110.toList == t111.toList)) = true then (if (a1.size : Int) > 200 then (if (a0 ++ (⟨#[64]⟩ : ByteArray)).size + a1.size ≤ 9223372036854775807 then ((PC.rule_Rcpt.f ([] : List (S88)) ([] : List (S90)) y106 0 ((a0 ++ (⟨#[64]⟩ : ByteArray)) ++ a1)).bind fun t116 => (some (t116 == 250))) else (none)) else (if a0.size + 3 ≤ 9223372036854775807 then (if (a0 ++ (⟨#[64, 97, 46]⟩ : ByteArray)).size + a1.size ≤ 9223372036854775807 then ((PC.rule_From.f ([] : List (S88)) ([] : List (S90)) y106 0 ((a0 ++ (⟨#[64, 97, 46]⟩ : ByteArray)) ++ a1) 0).bind fun t117 => (if t117 = 250 then (if (a0 ++ (⟨#[64]⟩ : ByteArray)).size + a1.size ≤ 9223372036854775807 then ((PC.rule_Rcpt.f ([] : List (S88)) ([] : List (S90)) y106 0 ((a0 ++ (⟨#[64]⟩ : ByteArray)) ++ a1)).bind fun t118 => (some (t118 == 250))) else (none)) else (some false))) else (none)) else (none))) else (some false))) else (none)) else (some false))) else (none))) else (none)) else (some false))))) = some r := by first | (rw [hy106]; with_reducible exact H) | (have H2_ := (Option.bind_some _ _).symm.trans H; rw [hy106]; with_reducible exact H2_) | (have H2_ := (Option.bind_some _ _).symm.trans H; with_reducible exact H2_) | with_reducible exact H | (rw [hy106]; exact H) | exact H
        have Ny106 := Aside0.mk hy106
        clear hy106
        replace H := Option.bind_eq_some_iff.mp H
        obtain ⟨t110, A230, H⟩ := H
        replace H : ((Hand.ref_Lower.f a2).bind fun t111 => ((PC.estafettelaw18_answers.f).bind fun t112 => (if t112 = true then (if a0.size + 1 ≤ 9223372036854775807 then ((Hand.ref_Upper.f a1).bind fun t113 => (if (a0 ++ (⟨#[64]⟩ : ByteArray)).size + t113.size ≤ 9223372036854775807 then ((PC.rule_From.f ([] : List (S88)) ([] : List (S90)) y106 0 ((a0 ++ (⟨#[64]⟩ : ByteArray)) ++ t113) 0).bind fun t114 => (if t114 = 550 then (if (a0 ++ (⟨#[64]⟩ : ByteArray)).size + a2.size ≤ 9223372036854775807 then ((PC.rule_From.f ([] : List (S88)) ([] : List (S90)) y106 0 ((a0 ++ (⟨#[64]⟩ : ByteArray)) ++ a2) 0).bind fun t115 => (if ((t115 == 550) == (t110.toList == t111.toList)) = true then (if (a1.size : Int) > 200 then (if (a0 ++ (⟨#[64]⟩ : ByteArray)).size + a1.size ≤ 9223372036854775807 then ((PC.rule_Rcpt.f ([] : List (S88)) ([] : List (S90)) y106 0 ((a0 ++ (⟨#[64]⟩ : ByteArray)) ++ a1)).bind fun t116 => (some (t116 == 250))) else (none)) else (if a0.size + 3 ≤ 9223372036854775807 then (if (a0 ++ (⟨#[64, 97, 46]⟩ : ByteArray)).size + a1.size ≤ 9223372036854775807 then ((PC.rule_From.f ([] : List (S88)) ([] : List (S90)) y106 0 ((a0 ++ (⟨#[64, 97, 46]⟩ : ByteArray)) ++ a1) 0).bind fun t117 => (if t117 = 250 then (if (a0 ++ (⟨#[64]⟩ : ByteArray)).size + a1.size ≤ 9223372036854775807 then ((PC.rule_Rcpt.f ([] : List (S88)) ([] : List (S90)) y106 0 ((a0 ++ (⟨#[64]⟩ : ByteArray)) ++ a1)).bind fun t118 => (some (t118 == 250))) else (none)) else (some false))) else (none)) else (none))) else (some false))) else (none)) else (some false))) else (none))) else (none)) else (some false)))) = some r := H
        have A23 := Aside0.mk A230
        clear A230
        replace H := Option.bind_eq_some_iff.mp H
        obtain ⟨t111, A240, H⟩ := H
        replace H : ((PC.estafettelaw18_answers.f).bind fun t112 => (if t112 = true then (if a0.size + 1 ≤ 9223372036854775807 then ((Hand.ref_Upper.f a1).bind fun t113 => (if (a0 ++ (⟨#[64]⟩ : ByteArray)).size + t113.size ≤ 9223372036854775807 then ((PC.rule_From.f ([] : List (S88)) ([] : List (S90)) y106 0 ((a0 ++ (⟨#[64]⟩ : ByteArray)) ++ t113) 0).bind fun t114 => (if t114 = 550 then (if (a0 ++ (⟨#[64]⟩ : ByteArray)).size + a2.size ≤ 9223372036854775807 then ((PC.rule_From.f ([] : List (S88)) ([] : List (S90)) y106 0 ((a0 ++ (⟨#[64]⟩ : ByteArray)) ++ a2) 0).bind fun t115 => (if ((t115 == 550) == (t110.toList == t111.toList)) = true then (if (a1.size : Int) > 200 then (if (a0 ++ (⟨#[64]⟩ : ByteArray)).size + a1.size ≤ 9223372036854775807 then ((PC.rule_Rcpt.f ([] : List (S88)) ([] : List (S90)) y106 0 ((a0 ++ (⟨#[64]⟩ : ByteArray)) ++ a1)).bind fun t116 => (some (t116 == 250))) else (none)) else (if a0.size + 3 ≤ 9223372036854775807 then (if (a0 ++ (⟨#[64, 97, 46]⟩ : ByteArray)).size + a1.size ≤ 9223372036854775807 then ((PC.rule_From.f ([] : List (S88)) ([] : List (S90)) y106 0 ((a0 ++ (⟨#[64, 97, 46]⟩ : ByteArray)) ++ a1) 0).bind fun t117 => (if t117 = 250 then (if (a0 ++ (⟨#[64]⟩ : ByteArray)).size + a1.size ≤ 9223372036854775807 then ((PC.rule_Rcpt.f ([] : List (S88)) ([] : List (S90)) y106 0 ((a0 ++ (⟨#[64]⟩ : ByteArray)) ++ a1)).bind fun t118 => (some (t118 == 250))) else (none)) else (some false))) else (none)) else (none))) else (some false))) else (none)) else (some false))) else (none))) else (none)) else (some false))) = some r := H
        have A24 := Aside0.mk A240
        clear A240
        replace H := Option.bind_eq_some_iff.mp H
        obtain ⟨t112, A250, H⟩ := H
        replace H : (if t112 = true then (if a0.size + 1 ≤ 9223372036854775807 then ((Hand.ref_Upper.f a1).bind fun t113 => (if (a0 ++ (⟨#[64]⟩ : ByteArray)).size + t113.size ≤ 9223372036854775807 then ((PC.rule_From.f ([] : List (S88)) ([] : List (S90)) y106 0 ((a0 ++ (⟨#[64]⟩ : ByteArray)) ++ t113) 0).bind fun t114 => (if t114 = 550 then (if (a0 ++ (⟨#[64]⟩ : ByteArray)).size + a2.size ≤ 9223372036854775807 then ((PC.rule_From.f ([] : List (S88)) ([] : List (S90)) y106 0 ((a0 ++ (⟨#[64]⟩ : ByteArray)) ++ a2) 0).bind fun t115 => (if ((t115 == 550) == (t110.toList == t111.toList)) = true then (if (a1.size : Int) > 200 then (if (a0 ++ (⟨#[64]⟩ : ByteArray)).size + a1.size ≤ 9223372036854775807 then ((PC.rule_Rcpt.f ([] : List (S88)) ([] : List (S90)) y106 0 ((a0 ++ (⟨#[64]⟩ : ByteArray)) ++ a1)).bind fun t116 => (some (t116 == 250))) else (none)) else (if a0.size + 3 ≤ 9223372036854775807 then (if (a0 ++ (⟨#[64, 97, 46]⟩ : ByteArray)).size + a1.size ≤ 9223372036854775807 then ((PC.rule_From.f ([] : List (S88)) ([] : List (S90)) y106 0 ((a0 ++ (⟨#[64, 97, 46]⟩ : ByteArray)) ++ a1) 0).bind fun t117 => (if t117 = 250 then (if (a0 ++ (⟨#[64]⟩ : ByteArray)).size + a1.size ≤ 9223372036854775807 then ((PC.rule_Rcpt.f ([] : List (S88)) ([] : List (S90)) y106 0 ((a0 ++ (⟨#[64]⟩ : ByteArray)) ++ a1)).bind fun t118 => (some (t118 == 250))) else (none)) else (some false))) else (none)) else (none))) else (some false))) else (none)) else (some false))) else (none))) else (none)) else (some false)) = some r := H
        have A25 := Aside0.mk A250
        clear A250
        by_cases c26 : t112 = true
        · subst c26
          have H1 : (if a0.size + 1 ≤ 9223372036854775807 then ((Hand.ref_Upper.f a1).bind fun t113 => (if (a0 ++ (⟨#[64]⟩ : ByteArray)).size + t113.size ≤ 9223372036854775807 then ((PC.rule_From.f ([] : List (S88)) ([] : List (S90)) y106 0 ((a0 ++ (⟨#[64]⟩ : ByteArray)) ++ t113) 0).bind fun t114 => (if t114 = 550 then (if (a0 ++ (⟨#[64]⟩ : ByteArray)).size + a2.size ≤ 9223372036854775807 then ((PC.rule_From.f ([] : List (S88)) ([] : List (S90)) y106 0 ((a0 ++ (⟨#[64]⟩ : ByteArray)) ++ a2) 0).bind fun t115 => (if ((t115 == 550) == (t110.toList == t111.toList)) = true then (if (a1.size : Int) > 200 then (if (a0 ++ (⟨#[64]⟩ : ByteArray)).size + a1.size ≤ 9223372036854775807 then ((PC.rule_Rcpt.f ([] : List (S88)) ([] : List (S90)) y106 0 ((a0 ++ (⟨#[64]⟩ : ByteArray)) ++ a1)).bind fun t116 => (some (t116 == 250))) else (none)) else (if a0.size + 3 ≤ 9223372036854775807 then (if (a0 ++ (⟨#[64, 97, 46]⟩ : ByteArray)).size + a1.size ≤ 9223372036854775807 then ((PC.rule_From.f ([] : List (S88)) ([] : List (S90)) y106 0 ((a0 ++ (⟨#[64, 97, 46]⟩ : ByteArray)) ++ a1) 0).bind fun t117 => (if t117 = 250 then (if (a0 ++ (⟨#[64]⟩ : ByteArray)).size + a1.size ≤ 9223372036854775807 then ((PC.rule_Rcpt.f ([] : List (S88)) ([] : List (S90)) y106 0 ((a0 ++ (⟨#[64]⟩ : ByteArray)) ++ a1)).bind fun t118 => (some (t118 == 250))) else (none)) else (some false))) else (none)) else (none))) else (some false))) else (none)) else (some false))) else (none))) else (none)) = some r := by rw [if_pos rfl] at H; exact H
          clear H
          have H := H1
          clear H1
          by_cases c27 : a0.size + 1 ≤ 9223372036854775807
          · rw [if_pos c27] at H
            have c27b0 := eq_true c27
            have c27b1 : decide (a0.size + 1 ≤ 9223372036854775807) = true := decide_eq_true c27
            try have c27b2 : (9223372036854775807 < a0.size + 1) = False := eq_false (Nat.not_lt.2 c27)
            replace H := Option.bind_eq_some_iff.mp H
            obtain ⟨t113, A280, H⟩ := H
            replace H : (if (a0 ++ (⟨#[64]⟩ : ByteArray)).size + t113.size ≤ 9223372036854775807 then ((PC.rule_From.f ([] : List (S88)) ([] : List (S90)) y106 0 ((a0 ++ (⟨#[64]⟩ : ByteArray)) ++ t113) 0).bind fun t114 => (if t114 = 550 then (if (a0 ++ (⟨#[64]⟩ : ByteArray)).size + a2.size ≤ 9223372036854775807 then ((PC.rule_From.f ([] : List (S88)) ([] : List (S90)) y106 0 ((a0 ++ (⟨#[64]⟩ : ByteArray)) ++ a2) 0).bind fun t115 => (if ((t115 == 550) == (t110.toList == t111.toList)) = true then (if (a1.size : Int) > 200 then (if (a0 ++ (⟨#[64]⟩ : ByteArray)).size + a1.size ≤ 9223372036854775807 then ((PC.rule_Rcpt.f ([] : List (S88)) ([] : List (S90)) y106 0 ((a0 ++ (⟨#[64]⟩ : ByteArray)) ++ a1)).bind fun t116 => (some (t116 == 250))) else (none)) else (if a0.size + 3 ≤ 9223372036854775807 then (if (a0 ++ (⟨#[64, 97, 46]⟩ : ByteArray)).size + a1.size ≤ 9223372036854775807 then ((PC.rule_From.f ([] : List (S88)) ([] : List (S90)) y106 0 ((a0 ++ (⟨#[64, 97, 46]⟩ : ByteArray)) ++ a1) 0).bind fun t117 => (if t117 = 250 then (if (a0 ++ (⟨#[64]⟩ : ByteArray)).size + a1.size ≤ 9223372036854775807 then ((PC.rule_Rcpt.f ([] : List (S88)) ([] : List (S90)) y106 0 ((a0 ++ (⟨#[64]⟩ : ByteArray)) ++ a1)).bind fun t118 => (some (t118 == 250))) else (none)) else (some false))) else (none)) else (none))) else (some false))) else (none)) else (some false))) else (none)) = some r := H
            have A28 := Aside0.mk A280
            clear A280
            by_cases c29 : (a0 ++ (⟨#[64]⟩ : ByteArray)).size + t113.size ≤ 9223372036854775807
            · rw [if_pos c29] at H
              have c29b0 := eq_true c29
              have c29b1 : decide ((a0 ++ (⟨#[64]⟩ : ByteArray)).size + t113.size ≤ 9223372036854775807) = true := decide_eq_true c29
              try have c29b2 : (9223372036854775807 < (a0 ++ (⟨#[64]⟩ : ByteArray)).size + t113.size) = False := eq_false (Nat.not_lt.2 c29)
              have c29z0 : (⟨#[64]⟩ : ByteArray).size = 1 := rfl
              (try (have c29p := c29; simp only [ByteArray.size_append, List.length_append, c29z0] at c29p))
              (try (have c29q := eq_false (Nat.not_lt.2 c29p)))
              replace H := Option.bind_eq_some_iff.mp H
              obtain ⟨t114, A300, H⟩ := H
              replace H : (if t114 = 550 then (if (a0 ++ (⟨#[64]⟩ : ByteArray)).size + a2.size ≤ 9223372036854775807 then ((PC.rule_From.f ([] : List (S88)) ([] : List (S90)) y106 0 ((a0 ++ (⟨#[64]⟩ : ByteArray)) ++ a2) 0).bind fun t115 => (if ((t115 == 550) == (t110.toList == t111.toList)) = true then (if (a1.size : Int) > 200 then (if (a0 ++ (⟨#[64]⟩ : ByteArray)).size + a1.size ≤ 9223372036854775807 then ((PC.rule_Rcpt.f ([] : List (S88)) ([] : List (S90)) y106 0 ((a0 ++ (⟨#[64]⟩ : ByteArray)) ++ a1)).bind fun t116 => (some (t116 == 250))) else (none)) else (if a0.size + 3 ≤ 9223372036854775807 then (if (a0 ++ (⟨#[64, 97, 46]⟩ : ByteArray)).size + a1.size ≤ 9223372036854775807 then ((PC.rule_From.f ([] : List (S88)) ([] : List (S90)) y106 0 ((a0 ++ (⟨#[64, 97, 46]⟩ : ByteArray)) ++ a1) 0).bind fun t117 => (if t117 = 250 then (if (a0 ++ (⟨#[64]⟩ : ByteArray)).size + a1.size ≤ 9223372036854775807 then ((PC.rule_Rcpt.f ([] : List (S88)) ([] : List (S90)) y106 0 ((a0 ++ (⟨#[64]⟩ : ByteArray)) ++ a1)).bind fun t118 => (some (t118 == 250))) else (none)) else (some false))) else (none)) else (none))) else (some false))) else (none)) else (some false)) = some r := H
              have A30 := Aside0.mk A300
              clear A300
              by_cases c31 : t114 = 550
              · rw [if_pos c31] at H
                have c31b0 : (t114 == 550) = true := beq_iff_eq.mpr c31
                have c31b1 : (t114 != 550) = false := bne_eq_false_iff_eq.mpr c31
                clear c31
                by_cases c32 : (a0 ++ (⟨#[64]⟩ : ByteArray)).size + a2.size ≤ 9223372036854775807
                · rw [if_pos c32] at H
                  have c32b0 := eq_true c32
                  have c32b1 : decide ((a0 ++ (⟨#[64]⟩ : ByteArray)).size + a2.size ≤ 9223372036854775807) = true := decide_eq_true c32
                  try have c32b2 : (9223372036854775807 < (a0 ++ (⟨#[64]⟩ : ByteArray)).size + a2.size) = False := eq_false (Nat.not_lt.2 c32)
                  have c32z0 : (⟨#[64]⟩ : ByteArray).size = 1 := rfl
                  (try (have c32p := c32; simp only [ByteArray.size_append, List.length_append, c32z0] at c32p))
                  (try (have c32q := eq_false (Nat.not_lt.2 c32p)))
                  replace H := Option.bind_eq_some_iff.mp H
                  obtain ⟨t115, A330, H⟩ := H
                  replace H : (if ((t115 == 550) == (t110.toList == t111.toList)) = true then (if (a1.size : Int) > 200 then (if (a0 ++ (⟨#[64]⟩ : ByteArray)).size + a1.size ≤ 9223372036854775807 then ((PC.rule_Rcpt.f ([] : List (S88)) ([] : List (S90)) y106 0 ((a0 ++ (⟨#[64]⟩ : ByteArray)) ++ a1)).bind fun t116 => (some (t116 == 250))) else (none)) else (if a0.size + 3 ≤ 9223372036854775807 then (if (a0 ++ (⟨#[64, 97, 46]⟩ : ByteArray)).size + a1.size ≤ 9223372036854775807 then ((PC.rule_From.f ([] : List (S88)) ([] : List (S90)) y106 0 ((a0 ++ (⟨#[64, 97, 46]⟩ : ByteArray)) ++ a1) 0).bind fun t117 => (if t117 = 250 then (if (a0 ++ (⟨#[64]⟩ : ByteArray)).size + a1.size ≤ 9223372036854775807 then ((PC.rule_Rcpt.f ([] : List (S88)) ([] : List (S90)) y106 0 ((a0 ++ (⟨#[64]⟩ : ByteArray)) ++ a1)).bind fun t118 => (some (t118 == 250))) else (none)) else (some false))) else (none)) else (none))) else (some false)) = some r := H
                  have A33 := Aside0.mk A330
                  clear A330
                  by_cases c34 : ((t115 == 550) == (t110.toList == t111.toList)) = true
                  · rw [if_pos c34] at H
                    have c34b0 : ((t115 == 550) == (t110.toList == t111.toList)) = true := c34
                    (try (have c34b1 : decide ((t115 == 550) = (t110.toList == t111.toList)) = true := by simpa using c34))
                    (try (have c34b2 : ((t115 == 550) == (t110.toList == t111.toList)) = true := by simpa using c34))
                    clear c34
                    by_cases c35 : (a1.size : Int) > 200
                    · rw [if_pos c35] at H
                      have c35b0 : decide (200 < (a1.size : Int)) = true := decide_eq_true c35
                      have c35b1 : decide (200 < a1.size) = true := decide_eq_true (by omega)
                      clear c35
                      by_cases c36 : (a0 ++ (⟨#[64]⟩ : ByteArray)).size + a1.size ≤ 9223372036854775807
                      · rw [if_pos c36] at H
                        have c36b0 := eq_true c36
                        have c36b1 : decide ((a0 ++ (⟨#[64]⟩ : ByteArray)).size + a1.size ≤ 9223372036854775807) = true := decide_eq_true c36
                        try have c36b2 : (9223372036854775807 < (a0 ++ (⟨#[64]⟩ : ByteArray)).size + a1.size) = False := eq_false (Nat.not_lt.2 c36)
                        have c36z0 : (⟨#[64]⟩ : ByteArray).size = 1 := rfl
                        (try (have c36p := c36; simp only [ByteArray.size_append, List.length_append, c36z0] at c36p))
                        (try (have c36q := eq_false (Nat.not_lt.2 c36p)))
                        replace H := Option.bind_eq_some_iff.mp H
                        obtain ⟨t116, A370, H⟩ := H
                        replace H : (some (t116 == 250)) = some r := H
                        have A37 := Aside0.mk A370
                        clear A370
                        obtain rfl := Option.some.inj H
                        try go_wp2_with (first | ((with_reducible refine gate_callee (f := 15) rfl ?_); refine goesL_ (some 39) rfl rfl Tryd.func15 (by kernel_rfl) rfl #[.string a1] rfl (by (try simp only [List.map_toArray, List.map_cons, List.map_nil]); first | done | rfl | (simp only [List.length_drop, List.length_take]; rfl)) ?_; (with_reducible refine (Hand.ref_Lower.calls a1 t105 _ A22.out).mono ?_); rintro e w38 ⟨rfl, hb⟩; refine ⟨_, rfl, ?_⟩; have n0_ := Aside0.mk (below_step (by repeat (first | (with_reducible first | exact HB.out | apply below_alloc | apply pw_below_drewN | apply below_drew1) | exact HB.out)) hb); clear HB; have HB := n0_; clear n0_; (try clear hb); (try clear hb2); (try clear hk); (try clear hi)) | ((with_reducible refine gate_dst (N := 41) rfl ?_); (try (refine gate_guard (by rfl) ?_; dsimp only)); refine Kd.R_lit k34 _ 34 ?hg (N := 41) ?hd (xs := ([(⟨true, t105⟩ : S34)] : List (S34))) (inner := [.bool true, .string t105]) (ok := fun _ => True) (okp := fun _ => True) ?hr ?hp (fun _ hk => hk) trivial (Below.refl _ _) (Nat.le_refl _) (by simp) ?_; (case hd => rfl); (case hg => rfl); (case hr => first | (go_simp; done) | (go_simp; rfl)); (case hp => exact (Reps.c2 (show Kd.M k34 _ _ _ (⟨true, t105⟩ : S34) [.bool true, .string t105] from (k34_mkM _ _ _ (⟨true, t105⟩ : S34) )) (Reps.none _ _))); intro v107 w39 ho40 hb hg_ hnew_; clear hg_ hnew_; (first | rw [← Ny106.out] at ho40 | (simp only [Int.reduceToNat] at ho40; rw [← Ny106.out] at ho40)); have n0_ := Aside0.mk (Kd.R_lower ho40 (below_size (by repeat (first | (with_reducible first | exact HB.out | apply below_alloc | apply pw_below_drewN | apply below_drew1) | exact HB.out)))); have n1_ := Aside0.mk (below_step (by repeat (first | (with_reducible first | exact HB.out | apply below_alloc | apply pw_below_drewN | apply below_drew1) | exact HB.out)) hb); clear HB; have HO108 := n0_; have HB := n1_; clear n0_ n1_; clear hb ho40; obtain ⟨Ao41, co41, eo41⟩ := Kd.R_slice HO108.out; subst eo41) | ((with_reducible refine gate_dst (N := 7) rfl ?_); (try (refine gate_guard (by rfl) ?_; dsimp only)); refine box_event ?hg (N := 7) ?hd (cs := #[.slice none 0 0, .slice none 0 0, .slice none 0 0, .int .i64 0]) (t := 26) ?hr ?_; (case hd => rfl); (case hg => rfl); (case hr => first | (go_simp; done) | (go_simp; rfl)); intro gb109 hg w42 hbox hb; have n0_ := Aside0.mk (Kd.R_below (by (with_reducible repeat (first | apply Kd.R_alloc | apply Kd.R_drewN | apply Kd.R_drew)); exact HO108.out) hb); have n1_ := Aside0.mk (below_step (by repeat (first | (with_reducible first | exact HB.out | apply below_alloc | apply pw_below_drewN | apply below_drew1) | exact HB.out)) hb); have n2_ := Aside0.mk (hbox); have n3_ := Aside0.mk ((by rw [hg]; exact (below_size (by repeat (first | (with_reducible first | exact HB.out | apply below_alloc | apply pw_below_drewN | apply below_drew1) | exact HB.out))) : w.heap.size ≤ gb109)); have n4_ := Aside0.mk ((by rw [hg]; exact (below_size (by repeat (first | (with_reducible first | exact HB.out | apply below_alloc | apply pw_below_drewN | apply below_drew1) | exact HB.out))) : w.heap.size ≤ gb109)); clear HO108; clear HB; have HO108 := n0_; have HB := n1_; have BK109 := n2_; have GW109 := n3_; have GE109 := n4_; clear n0_ n1_ n2_ n3_ n4_; clear hb hbox hg; have hcz43_0 : w42.cell? ⟨gb109, 0, none⟩ = some (.slice none 0 0) := (blk_cell BK109.out 0).trans rfl; have hcz43_1 : w42.cell? ⟨gb109, 1, none⟩ = some (.slice none 0 0) := (blk_cell BK109.out 1).trans rfl; have hcz43_2 : w42.cell? ⟨gb109, 2, none⟩ = some (.slice none 0 0) := (blk_cell BK109.out 2).trans rfl; have hcz43_3 : w42.cell? ⟨gb109, 3, none⟩ = some (.int .i64 0) := (blk_cell BK109.out 3).trans rfl; have hfz43_0 := blk_frozen BK109.out 0; have hfz43_1 := blk_frozen BK109.out 1; have hfz43_2 := blk_frozen BK109.out 2; have hfz43_3 := blk_frozen BK109.out 3) | ((with_reducible refine gate_callee (f := 15) rfl ?_); refine goesL_ (some 44) rfl rfl Tryd.func15 (by kernel_rfl) rfl #[.string a1] rfl (by (try simp only [List.map_toArray, List.map_cons, List.map_nil]); first | done | rfl | (simp only [List.length_drop, List.length_take]; rfl)) ?_; (with_reducible refine (Hand.ref_Lower.calls a1 t110 _ A23.out).mono ?_); rintro e w44 ⟨rfl, hb⟩; refine ⟨_, rfl, ?_⟩; have n0_ := Aside0.mk (Kd.R_below (by (with_reducible repeat (first | apply Kd.R_alloc | apply Kd.R_drewN | apply Kd.R_drew)); exact (Kd.R_mono (Kd.R_far (p := ⟨gb109, 3, none⟩) (Kd.R_far (p := ⟨gb109, 2, none⟩) (Kd.R_far (p := ⟨gb109, 1, none⟩) (Kd.R_far (p := ⟨gb109, 0, none⟩) (Kd.R_types HO108.out BK109.out (by decide)) (fun _ hk => hk.2) (.slice none 0 0)) (fun _ hk => hk.2) (.slice none 0 0)) (fun _ hk => hk.2) (.slice Ao41 y106.length co41)) (fun _ hk => hk.2) (.int .i64 0)) (fun _ h_ => h_.1))) hb); have n1_ := Aside0.mk (blk_below (g := gb109) (o := .cells #[.slice none 0 0, .slice none 0 0, .slice Ao41 y106.length co41, .int .i64 0] 26 (0, 0)) (by (with_reducible repeat (first | refine blk_drewN ?_ _ | refine blk_drew ?_ | refine blk_alloc ?_ _)); refine blk_put (cs := #[.slice none 0 0, .slice none 0 0, .slice Ao41 y106.length co41, .int .i64 0]) ?_ 3 _ rfl; (with_reducible repeat (first | refine blk_drewN ?_ _ | refine blk_drew ?_ | refine blk_alloc ?_ _)); refine blk_put (cs := #[.slice none 0 0, .slice none 0 0, .slice none 0 0, .int .i64 0]) ?_ 2 _ rfl; (with_reducible repeat (first | refine blk_drewN ?_ _ | refine blk_drew ?_ | refine blk_alloc ?_ _)); refine blk_put (cs := #[.slice none 0 0, .slice none 0 0, .slice none 0 0, .int .i64 0]) ?_ 1 _ rfl; (with_reducible repeat (first | refine blk_drewN ?_ _ | refine blk_drew ?_ | refine blk_alloc ?_ _)); refine blk_put (cs := #[.slice none 0 0, .slice none 0 0, .slice none 0 0, .int .i64 0]) ?_ 0 _ rfl; (with_reducible repeat (first | refine blk_drewN ?_ _ | refine blk_drew ?_ | refine blk_alloc ?_ _)); exact BK109.out) hb); have n2_ := Aside0.mk (below_step (by repeat (first | (with_reducible first | exact HB.out | apply below_alloc | apply pw_below_drewN | apply below_drew1 | refine below_set ?_ GE109.out) | exact HB.out)) hb); clear HO108; clear BK109; clear HB; have HO108 := n0_; have BK109 := n1_; have HB := n2_; clear n0_ n1_ n2_; (try clear hb); (try clear hb2); (try clear hk); (try clear hi)) | ((with_reducible refine gate_callee (f := 15) rfl ?_); refine goesL_ (some 46) rfl rfl Tryd.func15 (by kernel_rfl) rfl #[.string a2] rfl (by (try simp only [List.map_toArray, List.map_cons, List.map_nil]); first | done | rfl | (simp only [List.length_drop, List.length_take]; rfl)) ?_; (with_reducible refine (Hand.ref_Lower.calls a2 t111 _ A24.out).mono ?_); rintro e w45 ⟨rfl, hb⟩; refine ⟨_, rfl, ?_⟩; have n0_ := Aside0.mk (Kd.R_below (by (with_reducible repeat (first | apply Kd.R_alloc | apply Kd.R_drewN | apply Kd.R_drew)); exact HO108.out) hb); have n1_ := Aside0.mk (blk_below (g := gb109) (o := .cells #[.slice none 0 0, .slice none 0 0, .slice Ao41 y106.length co41, .int .i64 0] 26 (0, 0)) (by (with_reducible repeat (first | refine blk_drewN ?_ _ | refine blk_drew ?_ | refine blk_alloc ?_ _)); exact BK109.out) hb); have n2_ := Aside0.mk (below_step (by repeat (first | (with_reducible first | exact HB.out | apply below_alloc | apply pw_below_drewN | apply below_drew1 | refine below_set ?_ GE109.out) | exact HB.out)) hb); clear HO108; clear BK109; clear HB; have HO108 := n0_; have BK109 := n1_; have HB := n2_; clear n0_ n1_ n2_; (try clear hb); (try clear hb2); (try clear hk); (try clear hi)))
                        have n0_ := Aside0.mk (Kd.R_drew HO108.out)
                        have n1_ := Aside0.mk (blk_drew BK109.out)
                        have n2_ := Aside0.mk (below_drew1 HB.out)
                        clear HO108
                        clear BK109
                        clear HB
                        have HO108 := n0_
                        have BK109 := n1_
                        have HB := n2_
                        clear n0_ n1_ n2_
                        refine start_ (n := 46) (S := fun w' => w'.cell? ⟨gb109, 0, none⟩ = some (.slice none 0 0) ∧ w'.cell? ⟨gb109, 1, none⟩ = some (.slice none 0 0) ∧ w'.cell? ⟨gb109, 2, none⟩ = some (.slice Ao41 y106.length co41) ∧ w'.cell? ⟨gb109, 3, none⟩ = some (.int .i64 0)) (ds := []) #[false, false, false, false, false, false, false, false, false, false, false, false, false, false, false, false, false, false, false, false, false, false, false, false, false, false, false, false, false, false, false, false, false, false, false, false, false, false, false, false, false, false, false, false, false, false] (by kernel_rfl) rfl rfl ⟨(blk_cell BK109.out 0).trans rfl, (blk_cell BK109.out 1).trans rfl, (blk_cell BK109.out 2).trans rfl, (blk_cell BK109.out 3).trans rfl⟩ (fun hHeld => ?_); refine with_tabW estafettelaw18_RuleDomains.tab5 estafettelaw18_RuleDomains.bits5 (fun HT_ HW_ => ?_)
                        generalize w45.drew = w46 at HO108 BK109 HB hHeld ⊢
                        refine one_ (i := 0) (N := some 48) #[true, false, false, false, false, false, false, false, false, false, false, false, false, false, false, false, false, false, false, false, false, false, false, false, false, false, false, false, false, false, false, false, false, false, false, false, false, false, false, false, false, false, false, false, false, false] rfl rfl (one_of HT_.out (by kernel_rfl)) (by decide) (fun K hK => ?_)
                        refine goes_ Tryd.func7 (by kernel_rfl) rfl #[] (by rfl) rfl rfl (by (try simp only [List.map_toArray, List.map_cons, List.map_nil]); first | done | rfl | (simp only [List.length_drop, List.length_take]; rfl)) ?_
                        with_reducible refine (PC.estafettelaw18_answers.calls  true _ A25.out).mono ?_
                        rintro e w47 ⟨rfl, hb⟩
                        refine ⟨_, rfl, ?_⟩
                        have n0_ := Aside0.mk (Kd.R_below (by (with_reducible repeat (first | apply Kd.R_alloc | apply Kd.R_drewN | apply Kd.R_drew)); exact HO108.out) hb)
                        have n1_ := Aside0.mk (blk_below (g := gb109) (o := .cells #[.slice none 0 0, .slice none 0 0, .slice Ao41 y106.length co41, .int .i64 0] 26 (0, 0)) (by (with_reducible repeat (first | refine blk_drewN ?_ _ | refine blk_drew ?_ | refine blk_alloc ?_ _)); exact BK109.out) hb)
                        have n2_ := Aside0.mk (below_step (by repeat (first | (with_reducible first | exact HB.out | apply below_alloc | apply pw_below_drewN | apply below_drew1 | refine below_set ?_ GE109.out) | exact HB.out)) hb)
                        clear HO108
                        clear BK109
                        clear HB
                        have HO108 := n0_
                        have BK109 := n1_
                        have HB := n2_
                        clear n0_ n1_ n2_
                        (try clear hb)
                        (try clear hb2)
                        (try clear hk)
                        (try clear hi)
                        refine hK.out _ _ ⟨(blk_cell BK109.out 0).trans rfl, (blk_cell BK109.out 1).trans rfl, (blk_cell BK109.out 2).trans rfl, (blk_cell BK109.out 3).trans rfl⟩ (fun hHeld => ?_)
                        clear hK K
                        refine norm_ (a' := ?_) ?_ ?_
                        rotate_left
                        · show Act.put _ (some 48) _ = _
                          simp only [Act.put, List.setIfInBounds_toArray, List.set_cons_zero, List.set_cons_succ, i64_w, i32_w]
                          rfl
                        refine pure_ (i := 1) (N := some 49) (v := ?_) (a' := ?_) #[true, true, false, false, false, false, false, false, false, false, false, false, false, false, false, false, false, false, false, false, false, false, false, false, false, false, false, false, false, false, false, false, false, false, false, false, false, false, false, false, false, false, false, false, false, false] rfl rfl (any_of HT_.out (by kernel_rfl)) (fun _ _ _ h => h) (Or.inl ⟨by rfl, ?_⟩) ?_ ?_
                        rotate_left
                        · intro w'
                          go_simp
                          with_reducible rfl
                        rotate_left
                        · simp only [Act.put, List.setIfInBounds_toArray, List.set_cons_zero, List.set_cons_succ, i64_w, i32_w]
                          rfl
                        refine pure_ (i := 3) (N := some 51) (v := ?_) (a' := ?_) #[true, true, false, true, false, false, false, false, false, false, false, false, false, false, false, false, false, false, false, false, false, false, false, false, false, false, false, false, false, false, false, false, false, false, false, false, false, false, false, false, false, false, false, false, false, false] rfl rfl (any_of HT_.out (by kernel_rfl)) (fun _ _ _ h => h) (Or.inl ⟨by rfl, ?_⟩) ?_ ?_
                        rotate_left
                        · intro w'
                          go_simp
                          with_reducible rfl
                        rotate_left
                        · simp only [Act.put, List.setIfInBounds_toArray, List.set_cons_zero, List.set_cons_succ, i64_w, i32_w]
                          rfl
                        refine pure_ (i := 4) (N := some 52) (v := ?_) (a' := ?_) #[true, true, false, true, true, false, false, false, false, false, false, false, false, false, false, false, false, false, false, false, false, false, false, false, false, false, false, false, false, false, false, false, false, false, false, false, false, false, false, false, false, false, false, false, false, false] rfl rfl (any_of HT_.out (by kernel_rfl)) (fun _ _ _ h => h) (Or.inl ⟨by rfl, ?_⟩) ?_ ?_
                        rotate_left
                        · intro w'
                          go_simp
                          with_reducible rfl
                        rotate_left
                        · simp only [Act.put, List.setIfInBounds_toArray, List.set_cons_zero, List.set_cons_succ, i64_w, i32_w]
                          rfl
                        refine pure_ (i := 5) (N := some 53) (v := ?_) (a' := ?_) #[true, true, false, true, true, true, false, false, false, false, false, false, false, false, false, false, false, false, false, false, false, false, false, false, false, false, false, false, false, false, false, false, false, false, false, false, false, false, false, false, false, false, false, false, false, false] rfl rfl (any_of HT_.out (by kernel_rfl)) (fun _ _ _ h => h) (Or.inl ⟨by rfl, ?_⟩) ?_ ?_
                        rotate_left
                        · intro w'
                          go_simp
                          with_reducible rfl
                        rotate_left
                        · simp only [Act.put, List.setIfInBounds_toArray, List.set_cons_zero, List.set_cons_succ, i64_w, i32_w]
                          rfl
                        refine take_ (i := 2) (N := some 50) (v := ?_) (a' := ?_) #[true, true, true, true, true, true, false, false, false, false, false, false, false, false, false, false, false, false, false, false, false, false, false, false, false, false, false, false, false, false, false, false, false, false, false, false, false, false, false, false, false, false, false, false, false, false] rfl rfl (take_ofW HT_.out HW_.out (by kernel_rfl)) (fun _ _ _ h => h) (Or.inl ⟨by rfl, ?_⟩) hHeld ?_ ?_
                        rotate_left
                        · rintro w' ⟨s0, s1, s2, s3⟩
                          go_simp
                          with_reducible rfl
                        rotate_left
                        · simp only [Act.put, List.setIfInBounds_toArray, List.set_cons_zero, List.set_cons_succ, i64_w, i32_w]
                          rfl
                        refine one_ (i := 6) (N := some 54) #[true, true, true, true, true, true, true, false, false, false, false, false, false, false, false, false, false, false, false, false, false, false, false, false, false, false, false, false, false, false, false, false, false, false, false, false, false, false, false, false, false, false, false, false, false, false] rfl rfl (one_of HT_.out (by kernel_rfl)) (by decide) (fun K hK => ?_)
                        refine goes_ Tryd.func16 (by kernel_rfl) rfl #[.string a1] (by rfl) rfl rfl (by (try simp only [List.map_toArray, List.map_cons, List.map_nil]); first | done | rfl | (simp only [List.length_drop, List.length_take]; rfl)) ?_
                        with_reducible refine (Hand.ref_Upper.calls a1 t113 _ A28.out).mono ?_
                        rintro e w48 ⟨rfl, hb⟩
                        refine ⟨_, rfl, ?_⟩
                        have n0_ := Aside0.mk (Kd.R_below (by (with_reducible repeat (first | apply Kd.R_alloc | apply Kd.R_drewN | apply Kd.R_drew)); exact HO108.out) hb)
                        have n1_ := Aside0.mk (blk_below (g := gb109) (o := .cells #[.slice none 0 0, .slice none 0 0, .slice Ao41 y106.length co41, .int .i64 0] 26 (0, 0)) (by (with_reducible repeat (first | refine blk_drewN ?_ _ | refine blk_drew ?_ | refine blk_alloc ?_ _)); exact BK109.out) hb)
                        have n2_ := Aside0.mk (below_step (by repeat (first | (with_reducible first | exact HB.out | apply below_alloc | apply pw_below_drewN | apply below_drew1 | refine below_set ?_ GE109.out) | exact HB.out)) hb)
                        clear HO108
                        clear BK109
                        clear HB
                        have HO108 := n0_
                        have BK109 := n1_
                        have HB := n2_
                        clear n0_ n1_ n2_
                        (try clear hb)
                        (try clear hb2)
                        (try clear hk)
                        (try clear hi)
                        refine hK.out _ _ ⟨(blk_cell BK109.out 0).trans rfl, (blk_cell BK109.out 1).trans rfl, (blk_cell BK109.out 2).trans rfl, (blk_cell BK109.out 3).trans rfl⟩ (fun hHeld => ?_)
                        clear hK K
                        refine norm_ (a' := ?_) ?_ ?_
                        rotate_left
                        · show Act.put _ (some 54) _ = _
                          simp only [Act.put, List.setIfInBounds_toArray, List.set_cons_zero, List.set_cons_succ, i64_w, i32_w]
                          rfl
                        refine pure_ (i := 7) (N := some 55) (v := ?_) (a' := ?_) #[true, true, true, true, true, true, true, true, false, false, false, false, false, false, false, false, false, false, false, false, false, false, false, false, false, false, false, false, false, false, false, false, false, false, false, false, false, false, false, false, false, false, false, false, false, false] rfl rfl (any_of HT_.out (by kernel_rfl)) (fun _ _ _ h => h) (Or.inl ⟨by rfl, ?_⟩) ?_ ?_
                        rotate_left
                        · intro w'
                          go_simp
                          with_reducible rfl
                        rotate_left
                        · simp only [Act.put, List.setIfInBounds_toArray, List.set_cons_zero, List.set_cons_succ, i64_w, i32_w]
                          rfl
                        refine one_ (i := 8) (N := some 56) #[true, true, true, true, true, true, true, true, true, false, false, false, false, false, false, false, false, false, false, false, false, false, false, false, false, false, false, false, false, false, false, false, false, false, false, false, false, false, false, false, false, false, false, false, false, false] rfl rfl (one_of HT_.out (by kernel_rfl)) (by decide) (fun K hK => ?_)
                        refine goes_ Tryd.func10 (by kernel_rfl) rfl #[.agg #[.slice none 0 0, .slice none 0 0, .slice Ao41 y106.length co41, .int .i64 0], .string ((a0 ++ (⟨#[64]⟩ : ByteArray)) ++ t113), .int .i64 0] (by rfl) rfl rfl (by (try simp only [List.map_toArray, List.map_cons, List.map_nil]); first | done | rfl | (simp only [List.length_drop, List.length_take]; rfl)) ?_
                        refine (PC.rule_From.calls _ _ ([] : List (S88)) _ _ ([] : List (S90)) _ _ y106 0 ((a0 ++ (⟨#[64]⟩ : ByteArray)) ++ t113) 0 t114 _ ?side1 ?side2 ?side3 ?side4 ?side5 ?side6 A30.out).mono ?_
                        (case side1 => exact Kd.C_nil _ _)
                        (case side2 => exact Nat.le_refl _)
                        (case side3 => exact Kd.C_nil _ _)
                        (case side4 => exact Nat.le_refl _)
                        (case side5 => repeat (first | exact (Kd.R_reads' HO108.out).2.2 | (with_reducible refine Kd.C_alloc ?_ _) | (with_reducible refine Kd.C_drewN ?_ _) | (with_reducible refine Kd.C_drew ?_)))
                        (case side6 => exact (Kd.R_reads' HO108.out).2.1)
                        rintro e w49 ⟨rfl, hb⟩
                        refine ⟨_, rfl, ?_⟩
                        have n0_ := Aside0.mk (Kd.R_below (by (with_reducible repeat (first | apply Kd.R_alloc | apply Kd.R_drewN | apply Kd.R_drew)); exact HO108.out) hb)
                        have n1_ := Aside0.mk (blk_below (g := gb109) (o := .cells #[.slice none 0 0, .slice none 0 0, .slice Ao41 y106.length co41, .int .i64 0] 26 (0, 0)) (by (with_reducible repeat (first | refine blk_drewN ?_ _ | refine blk_drew ?_ | refine blk_alloc ?_ _)); exact BK109.out) hb)
                        have n2_ := Aside0.mk (below_step (by repeat (first | (with_reducible first | exact HB.out | apply below_alloc | apply pw_below_drewN | apply below_drew1 | refine below_set ?_ GE109.out) | exact HB.out)) hb)
                        clear HO108
                        clear BK109
                        clear HB
                        have HO108 := n0_
                        have BK109 := n1_
                        have HB := n2_
                        clear n0_ n1_ n2_
                        (try clear hb)
                        (try clear hb2)
                        (try clear hk)
                        (try clear hi)
                        refine hK.out _ _ ⟨(blk_cell BK109.out 0).trans rfl, (blk_cell BK109.out 1).trans rfl, (blk_cell BK109.out 2).trans rfl, (blk_cell BK109.out 3).trans rfl⟩ (fun hHeld => ?_)
                        clear hK K
                        refine norm_ (a' := ?_) ?_ ?_
                        rotate_left
                        · show Act.put _ (some 56) _ = _
                          simp only [Act.put, List.setIfInBounds_toArray, List.set_cons_zero, List.set_cons_succ, i64_w, i32_w]
                          rfl
                        refine pure_ (i := 9) (N := some 57) (v := ?_) (a' := ?_) #[true, true, true, true, true, true, true, true, true, true, false, false, false, false, false, false, false, false, false, false, false, false, false, false, false, false, false, false, false, false, false, false, false, false, false, false, false, false, false, false, false, false, false, false, false, false] rfl rfl (any_of HT_.out (by kernel_rfl)) (fun _ _ _ h => h) (Or.inl ⟨by rfl, ?_⟩) ?_ ?_
                        rotate_left
                        · intro w'
                          go_simp
                          with_reducible rfl
                        rotate_left
                        · simp only [Act.put, List.setIfInBounds_toArray, List.set_cons_zero, List.set_cons_succ, i64_w, i32_w]
                          rfl
                        refine pure_ (i := 10) (N := some 58) (v := ?_) (a' := ?_) #[true, true, true, true, true, true, true, true, true, true, true, false, false, false, false, false, false, false, false, false, false, false, false, false, false, false, false, false, false, false, false, false, false, false, false, false, false, false, false, false, false, false, false, false, false, false] rfl rfl (any_of HT_.out (by kernel_rfl)) (fun _ _ _ h => h) (Or.inl ⟨by rfl, ?_⟩) ?_ ?_
                        rotate_left
                        · intro w'
                          go_simp
                          with_reducible rfl
                        rotate_left
                        · simp only [Act.put, List.setIfInBounds_toArray, List.set_cons_zero, List.set_cons_succ, i64_w, i32_w]
                          rfl
                        refine pure_ (i := 11) (N := some 59) (v := ?_) (a' := ?_) #[true, true, true, true, true, true, true, true, true, true, true, true, false, false, false, false, false, false, false, false, false, false, false, false, false, false, false, false, false, false, false, false, false, false, false, false, false, false, false, false, false, false, false, false, false, false] rfl rfl (any_of HT_.out (by kernel_rfl)) (fun _ _ _ h => h) (Or.inl ⟨by rfl, ?_⟩) ?_ ?_
                        rotate_left
                        · intro w'
                          go_simp
                          with_reducible rfl
                        rotate_left
                        · simp only [Act.put, List.setIfInBounds_toArray, List.set_cons_zero, List.set_cons_succ, i64_w, i32_w]
                          rfl
                        refine pure_ (i := 13) (N := some 61) (v := ?_) (a' := ?_) #[true, true, true, true, true, true, true, true, true, true, true, true, false, true, false, false, false, false, false, false, false, false, false, false, false, false, false, false, false, false, false, false, false, false, false, false, false, false, false, false, false, false, false, false, false, false] rfl rfl (any_of HT_.out (by kernel_rfl)) (fun _ _ _ h => h) (Or.inl ⟨by rfl, ?_⟩) ?_ ?_
                        rotate_left
                        · intro w'
                          go_simp
                          with_reducible rfl
                        rotate_left
                        · simp only [Act.put, List.setIfInBounds_toArray, List.set_cons_zero, List.set_cons_succ, i64_w, i32_w]
                          rfl
                        refine pure_ (i := 14) (N := some 62) (v := ?_) (a' := ?_) #[true, true, true, true, true, true, true, true, true, true, true, true, false, true, true, false, false, false, false, false, false, false, false, false, false, false, false, false, false, false, false, false, false, false, false, false, false, false, false, false, false, false, false, false, false, false] rfl rfl (any_of HT_.out (by kernel_rfl)) (fun _ _ _ h => h) (Or.inl ⟨by rfl, ?_⟩) ?_ ?_
                        rotate_left
                        · intro w'
                          go_simp
                          with_reducible rfl
                        rotate_left
                        · simp only [Act.put, List.setIfInBounds_toArray, List.set_cons_zero, List.set_cons_succ, i64_w, i32_w]
                          rfl
                        refine pure_ (i := 15) (N := some 63) (v := ?_) (a' := ?_) #[true, true, true, true, true, true, true, true, true, true, true, true, false, true, true, true, false, false, false, false, false, false, false, false, false, false, false, false, false, false, false, false, false, false, false, false, false, false, false, false, false, false, false, false, false, false] rfl rfl (any_of HT_.out (by kernel_rfl)) (fun _ _ _ h => h) (Or.inl ⟨by rfl, ?_⟩) ?_ ?_
                        rotate_left
                        · intro w'
                          go_simp
                          with_reducible rfl
                        rotate_left
                        · simp only [Act.put, List.setIfInBounds_toArray, List.set_cons_zero, List.set_cons_succ, i64_w, i32_w]
                          rfl
                        refine pure_ (i := 16) (N := some 64) (v := ?_) (a' := ?_) #[true, true, true, true, true, true, true, true, true, true, true, true, false, true, true, true, true, false, false, false, false, false, false, false, false, false, false, false, false, false, false, false, false, false, false, false, false, false, false, false, false, false, false, false, false, false] rfl rfl (any_of HT_.out (by kernel_rfl)) (fun _ _ _ h => h) (Or.inl ⟨by rfl, ?_⟩) ?_ ?_
                        rotate_left
                        · intro w'
                          go_simp
                          with_reducible rfl
                        rotate_left
                        · simp only [Act.put, List.setIfInBounds_toArray, List.set_cons_zero, List.set_cons_succ, i64_w, i32_w]
                          rfl
                        refine pure_ (i := 19) (N := some 67) (v := ?_) (a' := ?_) #[true, true, true, true, true, true, true, true, true, true, true, true, false, true, true, true, true, false, false, true, false, false, false, false, false, false, false, false, false, false, false, false, false, false, false, false, false, false, false, false, false, false, false, false, false, false] rfl rfl (any_of HT_.out (by kernel_rfl)) (fun _ _ _ h => h) (Or.inl ⟨by rfl, ?_⟩) ?_ ?_
                        rotate_left
                        · intro w'
                          go_simp
                          with_reducible rfl
                        rotate_left
                        · simp only [Act.put, List.setIfInBounds_toArray, List.set_cons_zero, List.set_cons_succ, i64_w, i32_w]
                          rfl
                        refine take_ (i := 12) (N := some 60) (v := ?_) (a' := ?_) #[true, true, true, true, true, true, true, true, true, true, true, true, true, true, true, true, true, false, false, true, false, false, false, false, false, false, false, false, false, false, false, false, false, false, false, false, false, false, false, false, false, false, false, false, false, false] rfl rfl (take_ofW HT_.out HW_.out (by kernel_rfl)) (fun _ _ _ h => h) (Or.inl ⟨by rfl, ?_⟩) hHeld ?_ ?_
                        rotate_left
                        · rintro w' ⟨s0, s1, s2, s3⟩
                          go_simp
                          with_reducible rfl
                        rotate_left
                        · simp only [Act.put, List.setIfInBounds_toArray, List.set_cons_zero, List.set_cons_succ, i64_w, i32_w]
                          rfl
                        refine one_ (i := 17) (N := some 65) #[true, true, true, true, true, true, true, true, true, true, true, true, true, true, true, true, true, true, false, true, false, false, false, false, false, false, false, false, false, false, false, false, false, false, false, false, false, false, false, false, false, false, false, false, false, false] rfl rfl (one_of HT_.out (by kernel_rfl)) (by decide) (fun K hK => ?_)
                        refine goes_ Tryd.func10 (by kernel_rfl) rfl #[.agg #[.slice none 0 0, .slice none 0 0, .slice Ao41 y106.length co41, .int .i64 0], .string ((a0 ++ (⟨#[64]⟩ : ByteArray)) ++ a2), .int .i64 0] (by rfl) rfl rfl (by (try simp only [List.map_toArray, List.map_cons, List.map_nil]); first | done | rfl | (simp only [List.length_drop, List.length_take]; rfl)) ?_
                        refine (PC.rule_From.calls _ _ ([] : List (S88)) _ _ ([] : List (S90)) _ _ y106 0 ((a0 ++ (⟨#[64]⟩ : ByteArray)) ++ a2) 0 t115 _ ?side1 ?side2 ?side3 ?side4 ?side5 ?side6 A33.out).mono ?_
                        (case side1 => exact Kd.C_nil _ _)
                        (case side2 => exact Nat.le_refl _)
                        (case side3 => exact Kd.C_nil _ _)
                        (case side4 => exact Nat.le_refl _)
                        (case side5 => repeat (first | exact (Kd.R_reads' HO108.out).2.2 | (with_reducible refine Kd.C_alloc ?_ _) | (with_reducible refine Kd.C_drewN ?_ _) | (with_reducible refine Kd.C_drew ?_)))
                        (case side6 => exact (Kd.R_reads' HO108.out).2.1)
                        rintro e w50 ⟨rfl, hb⟩
                        refine ⟨_, rfl, ?_⟩
                        have n0_ := Aside0.mk (Kd.R_below (by (with_reducible repeat (first | apply Kd.R_alloc | apply Kd.R_drewN | apply Kd.R_drew)); exact HO108.out) hb)
                        have n1_ := Aside0.mk (blk_below (g := gb109) (o := .cells #[.slice none 0 0, .slice none 0 0, .slice Ao41 y106.length co41, .int .i64 0] 26 (0, 0)) (by (with_reducible repeat (first | refine blk_drewN ?_ _ | refine blk_drew ?_ | refine blk_alloc ?_ _)); exact BK109.out) hb)
                        have n2_ := Aside0.mk (below_step (by repeat (first | (with_reducible first | exact HB.out | apply below_alloc | apply pw_below_drewN | apply below_drew1 | refine below_set ?_ GE109.out) | exact HB.out)) hb)
                        clear HO108
                        clear BK109
                        clear HB
                        have HO108 := n0_
                        have BK109 := n1_
                        have HB := n2_
                        clear n0_ n1_ n2_
                        (try clear hb)
                        (try clear hb2)
                        (try clear hk)
                        (try clear hi)
                        refine hK.out _ _ ⟨(blk_cell BK109.out 0).trans rfl, (blk_cell BK109.out 1).trans rfl, (blk_cell BK109.out 2).trans rfl, (blk_cell BK109.out 3).trans rfl⟩ (fun hHeld => ?_)
                        clear hK K
                        refine norm_ (a' := ?_) ?_ ?_
                        rotate_left
                        · show Act.put _ (some 65) _ = _
                          simp only [Act.put, List.setIfInBounds_toArray, List.set_cons_zero, List.set_cons_succ, i64_w, i32_w]
                          rfl
                        refine pure_ (i := 18) (N := some 66) (v := ?_) (a' := ?_) #[true, true, true, true, true, true, true, true, true, true, true, true, true, true, true, true, true, true, true, true, false, false, false, false, false, false, false, false, false, false, false, false, false, false, false, false, false, false, false, false, false, false, false, false, false, false] rfl rfl (any_of HT_.out (by kernel_rfl)) (fun _ _ _ h => h) (Or.inl ⟨by rfl, ?_⟩) ?_ ?_
                        rotate_left
                        · intro w'
                          go_simp
                          with_reducible rfl
                        rotate_left
                        · simp only [Act.put, List.setIfInBounds_toArray, List.set_cons_zero, List.set_cons_succ, i64_w, i32_w]
                          rfl
                        refine pure_ (i := 20) (N := some 68) (v := ?_) (a' := ?_) #[true, true, true, true, true, true, true, true, true, true, true, true, true, true, true, true, true, true, true, true, true, false, false, false, false, false, false, false, false, false, false, false, false, false, false, false, false, false, false, false, false, false, false, false, false, false] rfl rfl (any_of HT_.out (by kernel_rfl)) (fun _ _ _ h => h) (Or.inl ⟨by rfl, ?_⟩) ?_ ?_
                        rotate_left
                        · intro w'
                          go_simp
                          with_reducible rfl
                        rotate_left
                        · simp only [Act.put, List.setIfInBounds_toArray, List.set_cons_zero, List.set_cons_succ, i64_w, i32_w]
                          rfl
                        refine pure_ (i := 21) (N := some 69) (v := ?_) (a' := ?_) #[true, true, true, true, true, true, true, true, true, true, true, true, true, true, true, true, true, true, true, true, true, true, false, false, false, false, false, false, false, false, false, false, false, false, false, false, false, false, false, false, false, false, false, false, false, false] rfl rfl (any_of HT_.out (by kernel_rfl)) (fun _ _ _ h => h) (Or.inl ⟨by rfl, ?_⟩) ?_ ?_
                        rotate_left
                        · intro w'
                          go_simp
                          with_reducible rfl
                        rotate_left
                        · simp only [Act.put, List.setIfInBounds_toArray, List.set_cons_zero, List.set_cons_succ, i64_w, i32_w]
                          rfl
                        refine pure_ (i := 22) (N := some 70) (v := ?_) (a' := ?_) #[true, true, true, true, true, true, true, true, true, true, true, true, true, true, true, true, true, true, true, true, true, true, true, false, false, false, false, false, false, false, false, false, false, false, false, false, false, false, false, false, false, false, false, false, false, false] rfl rfl (any_of HT_.out (by kernel_rfl)) (fun _ _ _ h => h) (Or.inl ⟨by rfl, ?_⟩) ?_ ?_
                        rotate_left
                        · intro w'
                          go_simp
                          with_reducible rfl
                        rotate_left
                        · simp only [Act.put, List.setIfInBounds_toArray, List.set_cons_zero, List.set_cons_succ, i64_w, i32_w]
                          rfl
                        refine pure_ (i := 23) (N := some 71) (v := ?_) (a' := ?_) #[true, true, true, true, true, true, true, true, true, true, true, true, true, true, true, true, true, true, true, true, true, true, true, true, false, false, false, false, false, false, false, false, false, false, false, false, false, false, false, false, false, false, false, false, false, false] rfl rfl (any_of HT_.out (by kernel_rfl)) (fun _ _ _ h => h) (Or.inl ⟨by rfl, ?_⟩) ?_ ?_
                        rotate_left
                        · intro w'
                          go_simp
                          with_reducible rfl
                        rotate_left
                        · simp only [Act.put, List.setIfInBounds_toArray, List.set_cons_zero, List.set_cons_succ, i64_w, i32_w]
                          rfl
                        refine pure_ (i := 24) (N := some 72) (v := ?_) (a' := ?_) #[true, true, true, true, true, true, true, true, true, true, true, true, true, true, true, true, true, true, true, true, true, true, true, true, true, false, false, false, false, false, false, false, false, false, false, false, false, false, false, false, false, false, false, false, false, false] rfl rfl (any_of HT_.out (by kernel_rfl)) (fun _ _ _ h => h) (Or.inl ⟨by rfl, ?_⟩) ?_ ?_
                        rotate_left
                        · intro w'
                          go_simp
                          with_reducible rfl
                        rotate_left
                        · simp only [Act.put, List.setIfInBounds_toArray, List.set_cons_zero, List.set_cons_succ, i64_w, i32_w]
                          rfl
                        refine pure_ (i := 25) (N := some 73) (v := ?_) (a' := ?_) #[true, true, true, true, true, true, true, true, true, true, true, true, true, true, true, true, true, true, true, true, true, true, true, true, true, true, false, false, false, false, false, false, false, false, false, false, false, false, false, false, false, false, false, false, false, false] rfl rfl (any_of HT_.out (by kernel_rfl)) (fun _ _ _ h => h) (Or.inl ⟨by rfl, ?_⟩) ?_ ?_
                        rotate_left
                        · intro w'
                          go_simp
                          with_reducible rfl
                        rotate_left
                        · simp only [Act.put, List.setIfInBounds_toArray, List.set_cons_zero, List.set_cons_succ, i64_w, i32_w]
                          rfl
                        refine pure_ (i := 26) (N := some 74) (v := ?_) (a' := ?_) #[true, true, true, true, true, true, true, true, true, true, true, true, true, true, true, true, true, true, true, true, true, true, true, true, true, true, true, false, false, false, false, false, false, false, false, false, false, false, false, false, false, false, false, false, false, false] rfl rfl (any_of HT_.out (by kernel_rfl)) (fun _ _ _ h => h) (Or.inl ⟨by rfl, ?_⟩) ?_ ?_
                        rotate_left
                        · intro w'
                          go_simp
                          with_reducible rfl
                        rotate_left
                        · simp only [Act.put, List.setIfInBounds_toArray, List.set_cons_zero, List.set_cons_succ, i64_w, i32_w]
                          rfl
                        refine pure_ (i := 27) (N := some 75) (v := undef) (a' := ?_) #[true, true, true, true, true, true, true, true, true, true, true, true, true, true, true, true, true, true, true, true, true, true, true, true, true, true, true, true, false, false, false, false, false, false, false, false, false, false, false, false, false, false, false, false, false, false] rfl rfl (any_of HT_.out (by kernel_rfl)) (fun _ _ _ h => h) (Or.inr ⟨by rfl, rfl⟩) ?_ ?_
                        rotate_left
                        · simp only [Act.put, List.setIfInBounds_toArray, List.set_cons_zero, List.set_cons_succ, i64_w, i32_w]
                          rfl
                        refine pure_ (i := 28) (N := some 76) (v := undef) (a' := ?_) #[true, true, true, true, true, true, true, true, true, true, true, true, true, true, true, true, true, true, true, true, true, true, true, true, true, true, true, true, true, false, false, false, false, false, false, false, false, false, false, false, false, false, false, false, false, false] rfl rfl (any_of HT_.out (by kernel_rfl)) (fun _ _ _ h => h) (Or.inr ⟨by rfl, rfl⟩) ?_ ?_
                        rotate_left
                        · simp only [Act.put, List.setIfInBounds_toArray, List.set_cons_zero, List.set_cons_succ, i64_w, i32_w]
                          rfl
                        refine pure_ (i := 29) (N := some 77) (v := undef) (a' := ?_) #[true, true, true, true, true, true, true, true, true, true, true, true, true, true, true, true, true, true, true, true, true, true, true, true, true, true, true, true, true, true, false, false, false, false, false, false, false, false, false, false, false, false, false, false, false, false] rfl rfl (any_of HT_.out (by kernel_rfl)) (fun _ _ _ h => h) (Or.inr ⟨by rfl, rfl⟩) ?_ ?_
                        rotate_left
                        · simp only [Act.put, List.setIfInBounds_toArray, List.set_cons_zero, List.set_cons_succ, i64_w, i32_w]
                          rfl
                        refine pure_ (i := 30) (N := some 78) (v := undef) (a' := ?_) #[true, true, true, true, true, true, true, true, true, true, true, true, true, true, true, true, true, true, true, true, true, true, true, true, true, true, true, true, true, true, true, false, false, false, false, false, false, false, false, false, false, false, false, false, false, false] rfl rfl (any_of HT_.out (by kernel_rfl)) (fun _ _ _ h => h) (Or.inr ⟨by rfl, rfl⟩) ?_ ?_
                        rotate_left
                        · simp only [Act.put, List.setIfInBounds_toArray, List.set_cons_zero, List.set_cons_succ, i64_w, i32_w]
                          rfl
                        refine pure_ (i := 31) (N := some 79) (v := undef) (a' := ?_) #[true, true, true, true, true, true, true, true, true, true, true, true, true, true, true, true, true, true, true, true, true, true, true, true, true, true, true, true, true, true, true, true, false, false, false, false, false, false, false, false, false, false, false, false, false, false] rfl rfl (any_of HT_.out (by kernel_rfl)) (fun _ _ _ h => h) (Or.inr ⟨by rfl, rfl⟩) ?_ ?_
                        rotate_left
                        · simp only [Act.put, List.setIfInBounds_toArray, List.set_cons_zero, List.set_cons_succ, i64_w, i32_w]
                          rfl
                        refine pure_ (i := 32) (N := some 80) (v := undef) (a' := ?_) #[true, true, true, true, true, true, true, true, true, true, true, true, true, true, true, true, true, true, true, true, true, true, true, true, true, true, true, true, true, true, true, true, true, false, false, false, false, false, false, false, false, false, false, false, false, false] rfl rfl (any_of HT_.out (by kernel_rfl)) (fun _ _ _ h => h) (Or.inr ⟨by rfl, rfl⟩) ?_ ?_
                        rotate_left
                        · simp only [Act.put, List.setIfInBounds_toArray, List.set_cons_zero, List.set_cons_succ, i64_w, i32_w]
                          rfl
                        refine pure_ (i := 33) (N := some 81) (v := undef) (a' := ?_) #[true, true, true, true, true, true, true, true, true, true, true, true, true, true, true, true, true, true, true, true, true, true, true, true, true, true, true, true, true, true, true, true, true, true, false, false, false, false, false, false, false, false, false, false, false, false] rfl rfl (any_of HT_.out (by kernel_rfl)) (fun _ _ _ h => h) (Or.inr ⟨by rfl, rfl⟩) ?_ ?_
                        rotate_left
                        · simp only [Act.put, List.setIfInBounds_toArray, List.set_cons_zero, List.set_cons_succ, i64_w, i32_w]
                          rfl
                        refine pure_ (i := 34) (N := some 82) (v := ?_) (a' := ?_) #[true, true, true, true, true, true, true, true, true, true, true, true, true, true, true, true, true, true, true, true, true, true, true, true, true, true, true, true, true, true, true, true, true, true, true, false, false, false, false, false, false, false, false, false, false, false] rfl rfl (any_of HT_.out (by kernel_rfl)) (fun _ _ _ h => h) (Or.inl ⟨by rfl, ?_⟩) ?_ ?_
                        rotate_left
                        · intro w'
                          go_simp
                          with_reducible rfl
                        rotate_left
                        · simp only [Act.put, List.setIfInBounds_toArray, List.set_cons_zero, List.set_cons_succ, i64_w, i32_w]
                          rfl
                        refine pure_ (i := 35) (N := some 83) (v := ?_) (a' := ?_) #[true, true, true, true, true, true, true, true, true, true, true, true, true, true, true, true, true, true, true, true, true, true, true, true, true, true, true, true, true, true, true, true, true, true, true, true, false, false, false, false, false, false, false, false, false, false] rfl rfl (any_of HT_.out (by kernel_rfl)) (fun _ _ _ h => h) (Or.inl ⟨by rfl, ?_⟩) ?_ ?_
                        rotate_left
                        · intro w'
                          go_simp
                          with_reducible rfl
                        rotate_left
                        · simp only [Act.put, List.setIfInBounds_toArray, List.set_cons_zero, List.set_cons_succ, i64_w, i32_w]
                          rfl
                        refine pure_ (i := 36) (N := some 84) (v := ?_) (a' := ?_) #[true, true, true, true, true, true, true, true, true, true, true, true, true, true, true, true, true, true, true, true, true, true, true, true, true, true, true, true, true, true, true, true, true, true, true, true, true, false, false, false, false, false, false, false, false, false] rfl rfl (any_of HT_.out (by kernel_rfl)) (fun _ _ _ h => h) (Or.inl ⟨by rfl, ?_⟩) ?_ ?_
                        rotate_left
                        · intro w'
                          go_simp
                          with_reducible rfl
                        rotate_left
                        · simp only [Act.put, List.setIfInBounds_toArray, List.set_cons_zero, List.set_cons_succ, i64_w, i32_w]
                          rfl
                        refine pure_ (i := 38) (N := some 86) (v := ?_) (a' := ?_) #[true, true, true, true, true, true, true, true, true, true, true, true, true, true, true, true, true, true, true, true, true, true, true, true, true, true, true, true, true, true, true, true, true, true, true, true, true, false, true, false, false, false, false, false, false, false] rfl rfl (any_of HT_.out (by kernel_rfl)) (fun _ _ _ h => h) (Or.inl ⟨by rfl, ?_⟩) ?_ ?_
                        rotate_left
                        · intro w'
                          go_simp
                          with_reducible rfl
                        rotate_left
                        · simp only [Act.put, List.setIfInBounds_toArray, List.set_cons_zero, List.set_cons_succ, i64_w, i32_w]
                          rfl
                        refine pure_ (i := 39) (N := some 87) (v := ?_) (a' := ?_) #[true, true, true, true, true, true, true, true, true, true, true, true, true, true, true, true, true, true, true, true, true, true, true, true, true, true, true, true, true, true, true, true, true, true, true, true, true, false, true, true, false, false, false, false, false, false] rfl rfl (any_of HT_.out (by kernel_rfl)) (fun _ _ _ h => h) (Or.inl ⟨by rfl, ?_⟩) ?_ ?_
                        rotate_left
                        · intro w'
                          go_simp
                          with_reducible rfl
                        rotate_left
                        · simp only [Act.put, List.setIfInBounds_toArray, List.set_cons_zero, List.set_cons_succ, i64_w, i32_w]
                          rfl
                        refine pure_ (i := 40) (N := some 88) (v := ?_) (a' := ?_) #[true, true, true, true, true, true, true, true, true, true, true, true, true, true, true, true, true, true, true, true, true, true, true, true, true, true, true, true, true, true, true, true, true, true, true, true, true, false, true, true, true, false, false, false, false, false] rfl rfl (any_of HT_.out (by kernel_rfl)) (fun _ _ _ h => h) (Or.inl ⟨by rfl, ?_⟩) ?_ ?_
                        rotate_left
                        · intro w'
                          go_simp
                          with_reducible rfl
                        rotate_left
                        · simp only [Act.put, List.setIfInBounds_toArray, List.set_cons_zero, List.set_cons_succ, i64_w, i32_w]
                          rfl
                        refine pure_ (i := 41) (N := some 89) (v := ?_) (a' := ?_) #[true, true, true, true, true, true, true, true, true, true, true, true, true, true, true, true, true, true, true, true, true, true, true, true, true, true, true, true, true, true, true, true, true, true, true, true, true, false, true, true, true, true, false, false, false, false] rfl rfl (any_of HT_.out (by kernel_rfl)) (fun _ _ _ h => h) (Or.inl ⟨by rfl, ?_⟩) ?_ ?_
                        rotate_left
                        · intro w'
                          go_simp
                          with_reducible rfl
                        rotate_left
                        · simp only [Act.put, List.setIfInBounds_toArray, List.set_cons_zero, List.set_cons_succ, i64_w, i32_w]
                          rfl
                        refine take_ (i := 37) (N := some 85) (v := ?_) (a' := ?_) #[true, true, true, true, true, true, true, true, true, true, true, true, true, true, true, true, true, true, true, true, true, true, true, true, true, true, true, true, true, true, true, true, true, true, true, true, true, true, true, true, true, true, false, false, false, false] rfl rfl (take_ofW HT_.out HW_.out (by kernel_rfl)) (fun _ _ _ h => h) (Or.inl ⟨by rfl, ?_⟩) hHeld ?_ ?_
                        rotate_left
                        · rintro w' ⟨s0, s1, s2, s3⟩
                          go_simp
                          with_reducible rfl
                        rotate_left
                        · simp only [Act.put, List.setIfInBounds_toArray, List.set_cons_zero, List.set_cons_succ, i64_w, i32_w]
                          rfl
                        refine one_ (i := 42) (N := some 90) #[true, true, true, true, true, true, true, true, true, true, true, true, true, true, true, true, true, true, true, true, true, true, true, true, true, true, true, true, true, true, true, true, true, true, true, true, true, true, true, true, true, true, true, false, false, false] rfl rfl (one_of HT_.out (by kernel_rfl)) (by decide) (fun K hK => ?_)
                        refine goes_ Tryd.func11 (by kernel_rfl) rfl #[.agg #[.slice none 0 0, .slice none 0 0, .slice Ao41 y106.length co41, .int .i64 0], .string ((a0 ++ (⟨#[64]⟩ : ByteArray)) ++ a1)] (by rfl) rfl rfl (by (try simp only [List.map_toArray, List.map_cons, List.map_nil]); first | done | rfl | (simp only [List.length_drop, List.length_take]; rfl)) ?_
                        refine (PC.rule_Rcpt.calls _ _ ([] : List (S88)) _ _ ([] : List (S90)) _ _ y106 0 ((a0 ++ (⟨#[64]⟩ : ByteArray)) ++ a1) t116 _ ?side1 ?side2 ?side3 ?side4 ?side5 ?side6 A37.out).mono ?_
                        (case side1 => exact Kd.C_nil _ _)
                        (case side2 => exact Nat.le_refl _)
                        (case side3 => exact Kd.C_nil _ _)
                        (case side4 => exact Nat.le_refl _)
                        (case side5 => repeat (first | exact (Kd.R_reads' HO108.out).2.2 | (with_reducible refine Kd.C_alloc ?_ _) | (with_reducible refine Kd.C_drewN ?_ _) | (with_reducible refine Kd.C_drew ?_)))
                        (case side6 => exact (Kd.R_reads' HO108.out).2.1)
                        rintro e w51 ⟨rfl, hb⟩
                        refine ⟨_, rfl, ?_⟩
                        have n0_ := Aside0.mk (Kd.R_below (by (with_reducible repeat (first | apply Kd.R_alloc | apply Kd.R_drewN | apply Kd.R_drew)); exact HO108.out) hb)
                        have n1_ := Aside0.mk (blk_below (g := gb109) (o := .cells #[.slice none 0 0, .slice none 0 0, .slice Ao41 y106.length co41, .int .i64 0] 26 (0, 0)) (by (with_reducible repeat (first | refine blk_drewN ?_ _ | refine blk_drew ?_ | refine blk_alloc ?_ _)); exact BK109.out) hb)
                        have n2_ := Aside0.mk (below_step (by repeat (first | (with_reducible first | exact HB.out | apply below_alloc | apply pw_below_drewN | apply below_drew1 | refine below_set ?_ GE109.out) | exact HB.out)) hb)
                        clear HO108
                        clear BK109
                        clear HB
                        have HO108 := n0_
                        have BK109 := n1_
                        have HB := n2_
                        clear n0_ n1_ n2_
                        (try clear hb)
                        (try clear hb2)
                        (try clear hk)
                        (try clear hi)
                        refine hK.out _ _ ⟨(blk_cell BK109.out 0).trans rfl, (blk_cell BK109.out 1).trans rfl, (blk_cell BK109.out 2).trans rfl, (blk_cell BK109.out 3).trans rfl⟩ (fun hHeld => ?_)
                        clear hK K
                        refine norm_ (a' := ?_) ?_ ?_
                        rotate_left
                        · show Act.put _ (some 90) _ = _
                          simp only [Act.put, List.setIfInBounds_toArray, List.set_cons_zero, List.set_cons_succ, i64_w, i32_w]
                          rfl
                        refine pure_ (i := 43) (N := some 91) (v := ?_) (a' := ?_) #[true, true, true, true, true, true, true, true, true, true, true, true, true, true, true, true, true, true, true, true, true, true, true, true, true, true, true, true, true, true, true, true, true, true, true, true, true, true, true, true, true, true, true, true, false, false] rfl rfl (any_of HT_.out (by kernel_rfl)) (fun _ _ _ h => h) (Or.inl ⟨by rfl, ?_⟩) ?_ ?_
                        rotate_left
                        · intro w'
                          go_simp
                          with_reducible rfl
                        rotate_left
                        · simp only [Act.put, List.setIfInBounds_toArray, List.set_cons_zero, List.set_cons_succ, i64_w, i32_w]
                          rfl
                        refine pure_ (i := 44) (N := some 92) (v := ?_) (a' := ?_) #[true, true, true, true, true, true, true, true, true, true, true, true, true, true, true, true, true, true, true, true, true, true, true, true, true, true, true, true, true, true, true, true, true, true, true, true, true, true, true, true, true, true, true, true, true, false] rfl rfl (any_of HT_.out (by kernel_rfl)) (fun _ _ _ h => h) (Or.inl ⟨by rfl, ?_⟩) ?_ ?_
                        rotate_left
                        · intro w'
                          go_simp
                          with_reducible rfl
                        rotate_left
                        · simp only [Act.put, List.setIfInBounds_toArray, List.set_cons_zero, List.set_cons_succ, i64_w, i32_w]
                          rfl
                        refine pure_ (i := 45) (N := some 6) (v := ?_) (a' := ?_) #[true, true, true, true, true, true, true, true, true, true, true, true, true, true, true, true, true, true, true, true, true, true, true, true, true, true, true, true, true, true, true, true, true, true, true, true, true, true, true, true, true, true, true, true, true, true] rfl rfl (any_of HT_.out (by kernel_rfl)) (fun _ _ _ h => h) (Or.inl ⟨by rfl, ?_⟩) ?_ ?_
                        rotate_left
                        · intro w'
                          go_simp
                          with_reducible rfl
                        rotate_left
                        · simp only [Act.put, List.setIfInBounds_toArray, List.set_cons_zero, List.set_cons_succ, i64_w, i32_w]
                          rfl
                        refine done_ (done_of HT_.out (by kernel_rfl)) ?_
                        try go_wp2
                        go_ret
                        exact ⟨by first | rfl | (simp [errW_none, errW_some] <;> rfl) | (simp [*, errW_none, errW_some] <;> rfl), by repeat (first | (with_reducible first | exact HB.out | apply below_alloc | apply pw_below_drewN | apply below_drew1 | refine below_set ?_ GE109.out) | exact HB.out)⟩
                      · rw [if_neg c36] at H
                        exact absurd H (by simp)
                    · rw [if_neg c35] at H
                      have c35b0 : decide (200 < (a1.size : Int)) = false := decide_eq_false c35
                      have c35b1 : decide (200 < a1.size) = false := decide_eq_false (by omega)
                      clear c35
                      by_cases c52 : a0.size + 3 ≤ 9223372036854775807
                      · rw [if_pos c52] at H
                        have c52b0 := eq_true c52
                        have c52b1 : decide (a0.size + 3 ≤ 9223372036854775807) = true := decide_eq_true c52
                        try have c52b2 : (9223372036854775807 < a0.size + 3) = False := eq_false (Nat.not_lt.2 c52)
                        by_cases c53 : (a0 ++ (⟨#[64, 97, 46]⟩ : ByteArray)).size + a1.size ≤ 9223372036854775807
                        · rw [if_pos c53] at H
                          have c53b0 := eq_true c53
                          have c53b1 : decide ((a0 ++ (⟨#[64, 97, 46]⟩ : ByteArray)).size + a1.size ≤ 9223372036854775807) = true := decide_eq_true c53
                          try have c53b2 : (9223372036854775807 < (a0 ++ (⟨#[64, 97, 46]⟩ : ByteArray)).size + a1.size) = False := eq_false (Nat.not_lt.2 c53)
                          have c53z0 : (⟨#[64, 97, 46]⟩ : ByteArray).size = 3 := rfl
                          (try (have c53p := c53; simp only [ByteArray.size_append, List.length_append, c53z0] at c53p))
                          (try (have c53q := eq_false (Nat.not_lt.2 c53p)))
                          replace H := Option.bind_eq_some_iff.mp H
                          obtain ⟨t117, A540, H⟩ := H
                          replace H : (if t117 = 250 then (if (a0 ++ (⟨#[64]⟩ : ByteArray)).size + a1.size ≤ 9223372036854775807 then ((PC.rule_Rcpt.f ([] : List (S88)) ([] : List (S90)) y106 0 ((a0 ++ (⟨#[64]⟩ : ByteArray)) ++ a1)).bind fun t118 => (some (t118 == 250))) else (none)) else (some false)) = some r := H
                          have A54 := Aside0.mk A540
                          clear A540
                          by_cases c55 : t117 = 250
                          · rw [if_pos c55] at H
                            have c55b0 : (t117 == 250) = true := beq_iff_eq.mpr c55
                            have c55b1 : (t117 != 250) = false := bne_eq_false_iff_eq.mpr c55
                            clear c55
                            by_cases c56 : (a0 ++ (⟨#[64]⟩ : ByteArray)).size + a1.size ≤ 9223372036854775807
                            · rw [if_pos c56] at H
                              have c56b0 := eq_true c56
                              have c56b1 : decide ((a0 ++ (⟨#[64]⟩ : ByteArray)).size + a1.size ≤ 9223372036854775807) = true := decide_eq_true c56
                              try have c56b2 : (9223372036854775807 < (a0 ++ (⟨#[64]⟩ : ByteArray)).size + a1.size) = False := eq_false (Nat.not_lt.2 c56)
                              have c56z0 : (⟨#[64]⟩ : ByteArray).size = 1 := rfl
                              (try (have c56p := c56; simp only [ByteArray.size_append, List.length_append, c56z0] at c56p))
                              (try (have c56q := eq_false (Nat.not_lt.2 c56p)))
                              replace H := Option.bind_eq_some_iff.mp H
                              obtain ⟨t118, A570, H⟩ := H
                              replace H : (some (t118 == 250)) = some r := H
                              have A57 := Aside0.mk A570
                              clear A570
                              obtain rfl := Option.some.inj H
                              try go_wp2_with (first | ((with_reducible refine gate_callee (f := 15) rfl ?_); refine goesL_ (some 39) rfl rfl Tryd.func15 (by kernel_rfl) rfl #[.string a1] rfl (by (try simp only [List.map_toArray, List.map_cons, List.map_nil]); first | done | rfl | (simp only [List.length_drop, List.length_take]; rfl)) ?_; (with_reducible refine (Hand.ref_Lower.calls a1 t105 _ A22.out).mono ?_); rintro e w58 ⟨rfl, hb⟩; refine ⟨_, rfl, ?_⟩; have n0_ := Aside0.mk (below_step (by repeat (first | (with_reducible first | exact HB.out | apply below_alloc | apply pw_below_drewN | apply below_drew1) | exact HB.out)) hb); clear HB; have HB := n0_; clear n0_; (try clear hb); (try clear hb2); (try clear hk); (try clear hi)) | ((with_reducible refine gate_dst (N := 41) rfl ?_); (try (refine gate_guard (by rfl) ?_; dsimp only)); refine Kd.R_lit k34 _ 34 ?hg (N := 41) ?hd (xs := ([(⟨true, t105⟩ : S34)] : List (S34))) (inner := [.bool true, .string t105]) (ok := fun _ => True) (okp := fun _ => True) ?hr ?hp (fun _ hk => hk) trivial (Below.refl _ _) (Nat.le_refl _) (by simp) ?_; (case hd => rfl); (case hg => rfl); (case hr => first | (go_simp; done) | (go_simp; rfl)); (case hp => exact (Reps.c2 (show Kd.M k34 _ _ _ (⟨true, t105⟩ : S34) [.bool true, .string t105] from (k34_mkM _ _ _ (⟨true, t105⟩ : S34) )) (Reps.none _ _))); intro v107 w59 ho60 hb hg_ hnew_; clear hg_ hnew_; (first | rw [← Ny106.out] at ho60 | (simp only [Int.reduceToNat] at ho60; rw [← Ny106.out] at ho60)); have n0_ := Aside0.mk (Kd.R_lower ho60 (below_size (by repeat (first | (with_reducible first | exact HB.out | apply below_alloc | apply pw_below_drewN | apply below_drew1) | exact HB.out)))); have n1_ := Aside0.mk (below_step (by repeat (first | (with_reducible first | exact HB.out | apply below_alloc | apply pw_below_drewN | apply below_drew1) | exact HB.out)) hb); clear HB; have HO108 := n0_; have HB := n1_; clear n0_ n1_; clear hb ho60; obtain ⟨Ao61, co61, eo61⟩ := Kd.R_slice HO108.out; subst eo61) | ((with_reducible refine gate_dst (N := 7) rfl ?_); (try (refine gate_guard (by rfl) ?_; dsimp only)); refine box_event ?hg (N := 7) ?hd (cs := #[.slice none 0 0, .slice none 0 0, .slice none 0 0, .int .i64 0]) (t := 26) ?hr ?_; (case hd => rfl); (case hg => rfl); (case hr => first | (go_simp; done) | (go_simp; rfl)); intro gb109 hg w62 hbox hb; have n0_ := Aside0.mk (Kd.R_below (by (with_reducible repeat (first | apply Kd.R_alloc | apply Kd.R_drewN | apply Kd.R_drew)); exact HO108.out) hb); have n1_ := Aside0.mk (below_step (by repeat (first | (with_reducible first | exact HB.out | apply below_alloc | apply pw_below_drewN | apply below_drew1) | exact HB.out)) hb); have n2_ := Aside0.mk (hbox); have n3_ := Aside0.mk ((by rw [hg]; exact (below_size (by repeat (first | (with_reducible first | exact HB.out | apply below_alloc | apply pw_below_drewN | apply below_drew1) | exact HB.out))) : w.heap.size ≤ gb109)); have n4_ := Aside0.mk ((by rw [hg]; exact (below_size (by repeat (first | (with_reducible first | exact HB.out | apply below_alloc | apply pw_below_drewN | apply below_drew1) | exact HB.out))) : w.heap.size ≤ gb109)); clear HO108; clear HB; have HO108 := n0_; have HB := n1_; have BK109 := n2_; have GW109 := n3_; have GE109 := n4_; clear n0_ n1_ n2_ n3_ n4_; clear hb hbox hg; have hcz63_0 : w62.cell? ⟨gb109, 0, none⟩ = some (.slice none 0 0) := (blk_cell BK109.out 0).trans rfl; have hcz63_1 : w62.cell? ⟨gb109, 1, none⟩ = some (.slice none 0 0) := (blk_cell BK109.out 1).trans rfl; have hcz63_2 : w62.cell? ⟨gb109, 2, none⟩ = some (.slice none 0 0) := (blk_cell BK109.out 2).trans rfl; have hcz63_3 : w62.cell? ⟨gb109, 3, none⟩ = some (.int .i64 0) := (blk_cell BK109.out 3).trans rfl; have hfz63_0 := blk_frozen BK109.out 0; have hfz63_1 := blk_frozen BK109.out 1; have hfz63_2 := blk_frozen BK109.out 2; have hfz63_3 := blk_frozen BK109.out 3) | ((with_reducible refine gate_callee (f := 15) rfl ?_); refine goesL_ (some 44) rfl rfl Tryd.func15 (by kernel_rfl) rfl #[.string a1] rfl (by (try simp only [List.map_toArray, List.map_cons, List.map_nil]); first | done | rfl | (simp only [List.length_drop, List.length_take]; rfl)) ?_; (with_reducible refine (Hand.ref_Lower.calls a1 t110 _ A23.out).mono ?_); rintro e w64 ⟨rfl, hb⟩; refine ⟨_, rfl, ?_⟩; have n0_ := Aside0.mk (Kd.R_below (by (with_reducible repeat (first | apply Kd.R_alloc | apply Kd.R_drewN | apply Kd.R_drew)); exact (Kd.R_mono (Kd.R_far (p := ⟨gb109, 3, none⟩) (Kd.R_far (p := ⟨gb109, 2, none⟩) (Kd.R_far (p := ⟨gb109, 1, none⟩) (Kd.R_far (p := ⟨gb109, 0, none⟩) (Kd.R_types HO108.out BK109.out (by decide)) (fun _ hk => hk.2) (.slice none 0 0)) (fun _ hk => hk.2) (.slice none 0 0)) (fun _ hk => hk.2) (.slice Ao61 y106.length co61)) (fun _ hk => hk.2) (.int .i64 0)) (fun _ h_ => h_.1))) hb); have n1_ := Aside0.mk (blk_below (g := gb109) (o := .cells #[.slice none 0 0, .slice none 0 0, .slice Ao61 y106.length co61, .int .i64 0] 26 (0, 0)) (by (with_reducible repeat (first | refine blk_drewN ?_ _ | refine blk_drew ?_ | refine blk_alloc ?_ _)); refine blk_put (cs := #[.slice none 0 0, .slice none 0 0, .slice Ao61 y106.length co61, .int .i64 0]) ?_ 3 _ rfl; (with_reducible repeat (first | refine blk_drewN ?_ _ | refine blk_drew ?_ | refine blk_alloc ?_ _)); refine blk_put (cs := #[.slice none 0 0, .slice none 0 0, .slice none 0 0, .int .i64 0]) ?_ 2 _ rfl; (with_reducible repeat (first | refine blk_drewN ?_ _ | refine blk_drew ?_ | refine blk_alloc ?_ _)); refine blk_put (cs := #[.slice none 0 0, .slice none 0 0, .slice none 0 0, .int .i64 0]) ?_ 1 _ rfl; (with_reducible repeat (first | refine blk_drewN ?_ _ | refine blk_drew ?_ | refine blk_alloc ?_ _)); refine blk_put (cs := #[.slice none 0 0, .slice none 0 0, .slice none 0 0, .int .i64 0]) ?_ 0 _ rfl; (with_reducible repeat (first | refine blk_drewN ?_ _ | refine blk_drew ?_ | refine blk_alloc ?_ _)); exact BK109.out) hb); have n2_ := Aside0.mk (below_step (by repeat (first | (with_reducible first | exact HB.out | apply below_alloc | apply pw_below_drewN | apply below_drew1 | refine below_set ?_ GE109.out) | exact HB.out)) hb); clear HO108; clear BK109; clear HB; have HO108 := n0_; have BK109 := n1_; have HB := n2_; clear n0_ n1_ n2_; (try clear hb); (try clear hb2); (try clear hk); (try clear hi)) | ((with_reducible refine gate_callee (f := 15) rfl ?_); refine goesL_ (some 46) rfl rfl Tryd.func15 (by kernel_rfl) rfl #[.string a2] rfl (by (try simp only [List.map_toArray, List.map_cons, List.map_nil]); first | done | rfl | (simp only [List.length_drop, List.length_take]; rfl)) ?_; (with_reducible refine (Hand.ref_Lower.calls a2 t111 _ A24.out).mono ?_); rintro e w65 ⟨rfl, hb⟩; refine ⟨_, rfl, ?_⟩; have n0_ := Aside0.mk (Kd.R_below (by (with_reducible repeat (first | apply Kd.R_alloc | apply Kd.R_drewN | apply Kd.R_drew)); exact HO108.out) hb); have n1_ := Aside0.mk (blk_below (g := gb109) (o := .cells #[.slice none 0 0, .slice none 0 0, .slice Ao61 y106.length co61, .int .i64 0] 26 (0, 0)) (by (with_reducible repeat (first | refine blk_drewN ?_ _ | refine blk_drew ?_ | refine blk_alloc ?_ _)); exact BK109.out) hb); have n2_ := Aside0.mk (below_step (by repeat (first | (with_reducible first | exact HB.out | apply below_alloc | apply pw_below_drewN | apply below_drew1 | refine below_set ?_ GE109.out) | exact HB.out)) hb); clear HO108; clear BK109; clear HB; have HO108 := n0_; have BK109 := n1_; have HB := n2_; clear n0_ n1_ n2_; (try clear hb); (try clear hb2); (try clear hk); (try clear hi)))
                              have n0_ := Aside0.mk (Kd.R_drew HO108.out)
                              have n1_ := Aside0.mk (blk_drew BK109.out)
                              have n2_ := Aside0.mk (below_drew1 HB.out)
                              clear HO108
                              clear BK109
                              clear HB
                              have HO108 := n0_
                              have BK109 := n1_
                              have HB := n2_
                              clear n0_ n1_ n2_
                              refine start_ (n := 46) (S := fun w' => w'.cell? ⟨gb109, 0, none⟩ = some (.slice none 0 0) ∧ w'.cell? ⟨gb109, 1, none⟩ = some (.slice none 0 0) ∧ w'.cell? ⟨gb109, 2, none⟩ = some (.slice Ao61 y106.length co61) ∧ w'.cell? ⟨gb109, 3, none⟩ = some (.int .i64 0)) (ds := []) #[false, false, false, false, false, false, false, false, false, false, false, false, false, false, false, false, false, false, false, false, false, false, false, false, false, false, false, false, false, false, false, false, false, false, false, false, false, false, false, false, false, false, false, false, false, false] (by kernel_rfl) rfl rfl ⟨(blk_cell BK109.out 0).trans rfl, (blk_cell BK109.out 1).trans rfl, (blk_cell BK109.out 2).trans rfl, (blk_cell BK109.out 3).trans rfl⟩ (fun hHeld => ?_); refine with_tabW estafettelaw18_RuleDomains.tab5 estafettelaw18_RuleDomains.bits5 (fun HT_ HW_ => ?_)
                              generalize w65.drew = w66 at HO108 BK109 HB hHeld ⊢
                              refine one_ (i := 0) (N := some 48) #[true, false, false, false, false, false, false, false, false, false, false, false, false, false, false, false, false, false, false, false, false, false, false, false, false, false, false, false, false, false, false, false, false, false, false, false, false, false, false, false, false, false, false, false, false, false] rfl rfl (one_of HT_.out (by kernel_rfl)) (by decide) (fun K hK => ?_)
                              refine goes_ Tryd.func7 (by kernel_rfl) rfl #[] (by rfl) rfl rfl (by (try simp only [List.map_toArray, List.map_cons, List.map_nil]); first | done | rfl | (simp only [List.length_drop, List.length_take]; rfl)) ?_
                              with_reducible refine (PC.estafettelaw18_answers.calls  true _ A25.out).mono ?_
                              rintro e w67 ⟨rfl, hb⟩
                              refine ⟨_, rfl, ?_⟩
                              have n0_ := Aside0.mk (Kd.R_below (by (with_reducible repeat (first | apply Kd.R_alloc | apply Kd.R_drewN | apply Kd.R_drew)); exact HO108.out) hb)
                              have n1_ := Aside0.mk (blk_below (g := gb109) (o := .cells #[.slice none 0 0, .slice none 0 0, .slice Ao61 y106.length co61, .int .i64 0] 26 (0, 0)) (by (with_reducible repeat (first | refine blk_drewN ?_ _ | refine blk_drew ?_ | refine blk_alloc ?_ _)); exact BK109.out) hb)
                              have n2_ := Aside0.mk (below_step (by repeat (first | (with_reducible first | exact HB.out | apply below_alloc | apply pw_below_drewN | apply below_drew1 | refine below_set ?_ GE109.out) | exact HB.out)) hb)
                              clear HO108
                              clear BK109
                              clear HB
                              have HO108 := n0_
                              have BK109 := n1_
                              have HB := n2_
                              clear n0_ n1_ n2_
                              (try clear hb)
                              (try clear hb2)
                              (try clear hk)
                              (try clear hi)
                              refine hK.out _ _ ⟨(blk_cell BK109.out 0).trans rfl, (blk_cell BK109.out 1).trans rfl, (blk_cell BK109.out 2).trans rfl, (blk_cell BK109.out 3).trans rfl⟩ (fun hHeld => ?_)
                              clear hK K
                              refine norm_ (a' := ?_) ?_ ?_
                              rotate_left
                              · show Act.put _ (some 48) _ = _
                                simp only [Act.put, List.setIfInBounds_toArray, List.set_cons_zero, List.set_cons_succ, i64_w, i32_w]
                                rfl
                              refine pure_ (i := 1) (N := some 49) (v := ?_) (a' := ?_) #[true, true, false, false, false, false, false, false, false, false, false, false, false, false, false, false, false, false, false, false, false, false, false, false, false, false, false, false, false, false, false, false, false, false, false, false, false, false, false, false, false, false, false, false, false, false] rfl rfl (any_of HT_.out (by kernel_rfl)) (fun _ _ _ h => h) (Or.inl ⟨by rfl, ?_⟩) ?_ ?_
                              rotate_left
                              · intro w'
                                go_simp
                                with_reducible rfl
                              rotate_left
                              · simp only [Act.put, List.setIfInBounds_toArray, List.set_cons_zero, List.set_cons_succ, i64_w, i32_w]
                                rfl
                              refine pure_ (i := 3) (N := some 51) (v := ?_) (a' := ?_) #[true, true, false, true, false, false, false, false, false, false, false, false, false, false, false, false, false, false, false, false, false, false, false, false, false, false, false, false, false, false, false, false, false, false, false, false, false, false, false, false, false, false, false, false, false, false] rfl rfl (any_of HT_.out (by kernel_rfl)) (fun _ _ _ h => h) (Or.inl ⟨by rfl, ?_⟩) ?_ ?_
                              rotate_left
                              · intro w'
                                go_simp
                                with_reducible rfl
                              rotate_left
                              · simp only [Act.put, List.setIfInBounds_toArray, List.set_cons_zero, List.set_cons_succ, i64_w, i32_w]
                                rfl
                              refine pure_ (i := 4) (N := some 52) (v := ?_) (a' := ?_) #[true, true, false, true, true, false, false, false, false, false, false, false, false, false, false, false, false, false, false, false, false, false, false, false, false, false, false, false, false, false, false, false, false, false, false, false, false, false, false, false, false, false, false, false, false, false] rfl rfl (any_of HT_.out (by kernel_rfl)) (fun _ _ _ h => h) (Or.inl ⟨by rfl, ?_⟩) ?_ ?_
                              rotate_left
                              · intro w'
                                go_simp
                                with_reducible rfl
                              rotate_left
                              · simp only [Act.put, List.setIfInBounds_toArray, List.set_cons_zero, List.set_cons_succ, i64_w, i32_w]
                                rfl
                              refine pure_ (i := 5) (N := some 53) (v := ?_) (a' := ?_) #[true, true, false, true, true, true, false, false, false, false, false, false, false, false, false, false, false, false, false, false, false, false, false, false, false, false, false, false, false, false, false, false, false, false, false, false, false, false, false, false, false, false, false, false, false, false] rfl rfl (any_of HT_.out (by kernel_rfl)) (fun _ _ _ h => h) (Or.inl ⟨by rfl, ?_⟩) ?_ ?_
                              rotate_left
                              · intro w'
                                go_simp
                                with_reducible rfl
                              rotate_left
                              · simp only [Act.put, List.setIfInBounds_toArray, List.set_cons_zero, List.set_cons_succ, i64_w, i32_w]
                                rfl
                              refine take_ (i := 2) (N := some 50) (v := ?_) (a' := ?_) #[true, true, true, true, true, true, false, false, false, false, false, false, false, false, false, false, false, false, false, false, false, false, false, false, false, false, false, false, false, false, false, false, false, false, false, false, false, false, false, false, false, false, false, false, false, false] rfl rfl (take_ofW HT_.out HW_.out (by kernel_rfl)) (fun _ _ _ h => h) (Or.inl ⟨by rfl, ?_⟩) hHeld ?_ ?_
                              rotate_left
                              · rintro w' ⟨s0, s1, s2, s3⟩
                                go_simp
                                with_reducible rfl
                              rotate_left
                              · simp only [Act.put, List.setIfInBounds_toArray, List.set_cons_zero, List.set_cons_succ, i64_w, i32_w]
                                rfl
                              refine one_ (i := 6) (N := some 54) #[true, true, true, true, true, true, true, false, false, false, false, false, false, false, false, false, false, false, false, false, false, false, false, false, false, false, false, false, false, false, false, false, false, false, false, false, false, false, false, false, false, false, false, false, false, false] rfl rfl (one_of HT_.out (by kernel_rfl)) (by decide) (fun K hK => ?_)
                              refine goes_ Tryd.func16 (by kernel_rfl) rfl #[.string a1] (by rfl) rfl rfl (by (try simp only [List.map_toArray, List.map_cons, List.map_nil]); first | done | rfl | (simp only [List.length_drop, List.length_take]; rfl)) ?_
                              with_reducible refine (Hand.ref_Upper.calls a1 t113 _ A28.out).mono ?_
                              rintro e w68 ⟨rfl, hb⟩
                              refine ⟨_, rfl, ?_⟩
                              have n0_ := Aside0.mk (Kd.R_below (by (with_reducible repeat (first | apply Kd.R_alloc | apply Kd.R_drewN | apply Kd.R_drew)); exact HO108.out) hb)
                              have n1_ := Aside0.mk (blk_below (g := gb109) (o := .cells #[.slice none 0 0, .slice none 0 0, .slice Ao61 y106.length co61, .int .i64 0] 26 (0, 0)) (by (with_reducible repeat (first | refine blk_drewN ?_ _ | refine blk_drew ?_ | refine blk_alloc ?_ _)); exact BK109.out) hb)
                              have n2_ := Aside0.mk (below_step (by repeat (first | (with_reducible first | exact HB.out | apply below_alloc | apply pw_below_drewN | apply below_drew1 | refine below_set ?_ GE109.out) | exact HB.out)) hb)
                              clear HO108
                              clear BK109
                              clear HB
                              have HO108 := n0_
                              have BK109 := n1_
                              have HB := n2_
                              clear n0_ n1_ n2_
                              (try clear hb)
                              (try clear hb2)
                              (try clear hk)
                              (try clear hi)
                              refine hK.out _ _ ⟨(blk_cell BK109.out 0).trans rfl, (blk_cell BK109.out 1).trans rfl, (blk_cell BK109.out 2).trans rfl, (blk_cell BK109.out 3).trans rfl⟩ (fun hHeld => ?_)
                              clear hK K
                              refine norm_ (a' := ?_) ?_ ?_
                              rotate_left
                              · show Act.put _ (some 54) _ = _
                                simp only [Act.put, List.setIfInBounds_toArray, List.set_cons_zero, List.set_cons_succ, i64_w, i32_w]
                                rfl
                              refine pure_ (i := 7) (N := some 55) (v := ?_) (a' := ?_) #[true, true, true, true, true, true, true, true, false, false, false, false, false, false, false, false, false, false, false, false, false, false, false, false, false, false, false, false, false, false, false, false, false, false, false, false, false, false, false, false, false, false, false, false, false, false] rfl rfl (any_of HT_.out (by kernel_rfl)) (fun _ _ _ h => h) (Or.inl ⟨by rfl, ?_⟩) ?_ ?_
                              rotate_left
                              · intro w'
                                go_simp
                                with_reducible rfl
                              rotate_left
                              · simp only [Act.put, List.setIfInBounds_toArray, List.set_cons_zero, List.set_cons_succ, i64_w, i32_w]
                                rfl
                              refine one_ (i := 8) (N := some 56) #[true, true, true, true, true, true, true, true, true, false, false, false, false, false, false, false, false, false, false, false, false, false, false, false, false, false, false, false, false, false, false, false, false, false, false, false, false, false, false, false, false, false, false, false, false, false] rfl rfl (one_of HT_.out (by kernel_rfl)) (by decide) (fun K hK => ?_)
                              refine goes_ Tryd.func10 (by kernel_rfl) rfl #[.agg #[.slice none 0 0, .slice none 0 0, .slice Ao61 y106.length co61, .int .i64 0], .string ((a0 ++ (⟨#[64]⟩ : ByteArray)) ++ t113), .int .i64 0] (by rfl) rfl rfl (by (try simp only [List.map_toArray, List.map_cons, List.map_nil]); first | done | rfl | (simp only [List.length_drop, List.length_take]; rfl)) ?_
                              refine (PC.rule_From.calls _ _ ([] : List (S88)) _ _ ([] : List (S90)) _ _ y106 0 ((a0 ++ (⟨#[64]⟩ : ByteArray)) ++ t113) 0 t114 _ ?side1 ?side2 ?side3 ?side4 ?side5 ?side6 A30.out).mono ?_
                              (case side1 => exact Kd.C_nil _ _)
                              (case side2 => exact Nat.le_refl _)
                              (case side3 => exact Kd.C_nil _ _)
                              (case side4 => exact Nat.le_refl _)
                              (case side5 => repeat (first | exact (Kd.R_reads' HO108.out).2.2 | (with_reducible refine Kd.C_alloc ?_ _) | (with_reducible refine Kd.C_drewN ?_ _) | (with_reducible refine Kd.C_drew ?_)))
                              (case side6 => exact (Kd.R_reads' HO108.out).2.1)
                              rintro e w69 ⟨rfl, hb⟩
                              refine ⟨_, rfl, ?_⟩
                              have n0_ := Aside0.mk (Kd.R_below (by (with_reducible repeat (first | apply Kd.R_alloc | apply Kd.R_drewN | apply Kd.R_drew)); exact HO108.out) hb)
                              have n1_ := Aside0.mk (blk_below (g := gb109) (o := .cells #[.slice none 0 0, .slice none 0 0, .slice Ao61 y106.length co61, .int .i64 0] 26 (0, 0)) (by (with_reducible repeat (first | refine blk_drewN ?_ _ | refine blk_drew ?_ | refine blk_alloc ?_ _)); exact BK109.out) hb)
                              have n2_ := Aside0.mk (below_step (by repeat (first | (with_reducible first | exact HB.out | apply below_alloc | apply pw_below_drewN | apply below_drew1 | refine below_set ?_ GE109.out) | exact HB.out)) hb)
                              clear HO108
                              clear BK109
                              clear HB
                              have HO108 := n0_
                              have BK109 := n1_
                              have HB := n2_
                              clear n0_ n1_ n2_
                              (try clear hb)
                              (try clear hb2)
                              (try clear hk)
                              (try clear hi)
                              refine hK.out _ _ ⟨(blk_cell BK109.out 0).trans rfl, (blk_cell BK109.out 1).trans rfl, (blk_cell BK109.out 2).trans rfl, (blk_cell BK109.out 3).trans rfl⟩ (fun hHeld => ?_)
                              clear hK K
                              refine norm_ (a' := ?_) ?_ ?_
                              rotate_left
                              · show Act.put _ (some 56) _ = _
                                simp only [Act.put, List.setIfInBounds_toArray, List.set_cons_zero, List.set_cons_succ, i64_w, i32_w]
                                rfl
                              refine pure_ (i := 9) (N := some 57) (v := ?_) (a' := ?_) #[true, true, true, true, true, true, true, true, true, true, false, false, false, false, false, false, false, false, false, false, false, false, false, false, false, false, false, false, false, false, false, false, false, false, false, false, false, false, false, false, false, false, false, false, false, false] rfl rfl (any_of HT_.out (by kernel_rfl)) (fun _ _ _ h => h) (Or.inl ⟨by rfl, ?_⟩) ?_ ?_
                              rotate_left
                              · intro w'
                                go_simp
                                with_reducible rfl
                              rotate_left
                              · simp only [Act.put, List.setIfInBounds_toArray, List.set_cons_zero, List.set_cons_succ, i64_w, i32_w]
                                rfl
                              refine pure_ (i := 10) (N := some 58) (v := ?_) (a' := ?_) #[true, true, true, true, true, true, true, true, true, true, true, false, false, false, false, false, false, false, false, false, false, false, false, false, false, false, false, false, false, false, false, false, false, false, false, false, false, false, false, false, false, false, false, false, false, false] rfl rfl (any_of HT_.out (by kernel_rfl)) (fun _ _ _ h => h) (Or.inl ⟨by rfl, ?_⟩) ?_ ?_
                              rotate_left
                              · intro w'
                                go_simp
                                with_reducible rfl
                              rotate_left
                              · simp only [Act.put, List.setIfInBounds_toArray, List.set_cons_zero, List.set_cons_succ, i64_w, i32_w]
                                rfl
                              refine pure_ (i := 11) (N := some 59) (v := ?_) (a' := ?_) #[true, true, true, true, true, true, true, true, true, true, true, true, false, false, false, false, false, false, false, false, false, false, false, false, false, false, false, false, false, false, false, false, false, false, false, false, false, false, false, false, false, false, false, false, false, false] rfl rfl (any_of HT_.out (by kernel_rfl)) (fun _ _ _ h => h) (Or.inl ⟨by rfl, ?_⟩) ?_ ?_
                              rotate_left
                              · intro w'
                                go_simp
                                with_reducible rfl
                              rotate_left
                              · simp only [Act.put, List.setIfInBounds_toArray, List.set_cons_zero, List.set_cons_succ, i64_w, i32_w]
                                rfl
                              refine pure_ (i := 13) (N := some 61) (v := ?_) (a' := ?_) #[true, true, true, true, true, true, true, true, true, true, true, true, false, true, false, false, false, false, false, false, false, false, false, false, false, false, false, false, false, false, false, false, false, false, false, false, false, false, false, false, false, false, false, false, false, false] rfl rfl (any_of HT_.out (by kernel_rfl)) (fun _ _ _ h => h) (Or.inl ⟨by rfl, ?_⟩) ?_ ?_
                              rotate_left
                              · intro w'
                                go_simp
                                with_reducible rfl
                              rotate_left
                              · simp only [Act.put, List.setIfInBounds_toArray, List.set_cons_zero, List.set_cons_succ, i64_w, i32_w]
                                rfl
                              refine pure_ (i := 14) (N := some 62) (v := ?_) (a' := ?_) #[true, true, true, true, true, true, true, true, true, true, true, true, false, true, true, false, false, false, false, false, false, false, false, false, false, false, false, false, false, false, false, false, false, false, false, false, false, false, false, false, false, false, false, false, false, false] rfl rfl (any_of HT_.out (by kernel_rfl)) (fun _ _ _ h => h) (Or.inl ⟨by rfl, ?_⟩) ?_ ?_
                              rotate_left
                              · intro w'
                                go_simp
                                with_reducible rfl
                              rotate_left
                              · simp only [Act.put, List.setIfInBounds_toArray, List.set_cons_zero, List.set_cons_succ, i64_w, i32_w]
                                rfl
                              refine pure_ (i := 15) (N := some 63) (v := ?_) (a' := ?_) #[true, true, true, true, true, true, true, true, true, true, true, true, false, true, true, true, false, false, false, false, false, false, false, false, false, false, false, false, false, false, false, false, false, false, false, false, false, false, false, false, false, false, false, false, false, false] rfl rfl (any_of HT_.out (by kernel_rfl)) (fun _ _ _ h => h) (Or.inl ⟨by rfl, ?_⟩) ?_ ?_
                              rotate_left
                              · intro w'
                                go_simp
                                with_reducible rfl
                              rotate_left
                              · simp only [Act.put, List.setIfInBounds_toArray, List.set_cons_zero, List.set_cons_succ, i64_w, i32_w]
                                rfl
                              refine pure_ (i := 16) (N := some 64) (v := ?_) (a' := ?_) #[true, true, true, true, true, true, true, true, true, true, true, true, false, true, true, true, true, false, false, false, false, false, false, false, false, false, false, false, false, false, false, false, false, false, false, false, false, false, false, false, false, false, false, false, false, false] rfl rfl (any_of HT_.out (by kernel_rfl)) (fun _ _ _ h => h) (Or.inl ⟨by rfl, ?_⟩) ?_ ?_
                              rotate_left
                              · intro w'
                                go_simp
                                with_reducible rfl
                              rotate_left
                              · simp only [Act.put, List.setIfInBounds_toArray, List.set_cons_zero, List.set_cons_succ, i64_w, i32_w]
                                rfl
                              refine pure_ (i := 19) (N := some 67) (v := ?_) (a' := ?_) #[true, true, true, true, true, true, true, true, true, true, true, true, false, true, true, true, true, false, false, true, false, false, false, false, false, false, false, false, false, false, false, false, false, false, false, false, false, false, false, false, false, false, false, false, false, false] rfl rfl (any_of HT_.out (by kernel_rfl)) (fun _ _ _ h => h) (Or.inl ⟨by rfl, ?_⟩) ?_ ?_
                              rotate_left
                              · intro w'
                                go_simp
                                with_reducible rfl
                              rotate_left
                              · simp only [Act.put, List.setIfInBounds_toArray, List.set_cons_zero, List.set_cons_succ, i64_w, i32_w]
                                rfl
                              refine take_ (i := 12) (N := some 60) (v := ?_) (a' := ?_) #[true, true, true, true, true, true, true, true, true, true, true, true, true, true, true, true, true, false, false, true, false, false, false, false, false, false, false, false, false, false, false, false, false, false, false, false, false, false, false, false, false, false, false, false, false, false] rfl rfl (take_ofW HT_.out HW_.out (by kernel_rfl)) (fun _ _ _ h => h) (Or.inl ⟨by rfl, ?_⟩) hHeld ?_ ?_
                              rotate_left
                              · rintro w' ⟨s0, s1, s2, s3⟩
                                go_simp
                                with_reducible rfl
                              rotate_left
                              · simp only [Act.put, List.setIfInBounds_toArray, List.set_cons_zero, List.set_cons_succ, i64_w, i32_w]
                                rfl
                              refine one_ (i := 17) (N := some 65) #[true, true, true, true, true, true, true, true, true, true, true, true, true, true, true, true, true, true, false, true, false, false, false, false, false, false, false, false, false, false, false, false, false, false, false, false, false, false, false, false, false, false, false, false, false, false] rfl rfl (one_of HT_.out (by kernel_rfl)) (by decide) (fun K hK => ?_)
                              refine goes_ Tryd.func10 (by kernel_rfl) rfl #[.agg #[.slice none 0 0, .slice none 0 0, .slice Ao61 y106.length co61, .int .i64 0], .string ((a0 ++ (⟨#[64]⟩ : ByteArray)) ++ a2), .int .i64 0] (by rfl) rfl rfl (by (try simp only [List.map_toArray, List.map_cons, List.map_nil]); first | done | rfl | (simp only [List.length_drop, List.length_take]; rfl)) ?_
                              refine (PC.rule_From.calls _ _ ([] : List (S88)) _ _ ([] : List (S90)) _ _ y106 0 ((a0 ++ (⟨#[64]⟩ : ByteArray)) ++ a2) 0 t115 _ ?side1 ?side2 ?side3 ?side4 ?side5 ?side6 A33.out).mono ?_
                              (case side1 => exact Kd.C_nil _ _)
                              (case side2 => exact Nat.le_refl _)
                              (case side3 => exact Kd.C_nil _ _)
                              (case side4 => exact Nat.le_refl _)
                              (case side5 => repeat (first | exact (Kd.R_reads' HO108.out).2.2 | (with_reducible refine Kd.C_alloc ?_ _) | (with_reducible refine Kd.C_drewN ?_ _) | (with_reducible refine Kd.C_drew ?_)))
                              (case side6 => exact (Kd.R_reads' HO108.out).2.1)
                              rintro e w70 ⟨rfl, hb⟩
                              refine ⟨_, rfl, ?_⟩
                              have n0_ := Aside0.mk (Kd.R_below (by (with_reducible repeat (first | apply Kd.R_alloc | apply Kd.R_drewN | apply Kd.R_drew)); exact HO108.out) hb)
                              have n1_ := Aside0.mk (blk_below (g := gb109) (o := .cells #[.slice none 0 0, .slice none 0 0, .slice Ao61 y106.length co61, .int .i64 0] 26 (0, 0)) (by (with_reducible repeat (first | refine blk_drewN ?_ _ | refine blk_drew ?_ | refine blk_alloc ?_ _)); exact BK109.out) hb)
                              have n2_ := Aside0.mk (below_step (by repeat (first | (with_reducible first | exact HB.out | apply below_alloc | apply pw_below_drewN | apply below_drew1 | refine below_set ?_ GE109.out) | exact HB.out)) hb)
                              clear HO108
                              clear BK109
                              clear HB
                              have HO108 := n0_
                              have BK109 := n1_
                              have HB := n2_
                              clear n0_ n1_ n2_
                              (try clear hb)
                              (try clear hb2)
                              (try clear hk)
                              (try clear hi)
                              refine hK.out _ _ ⟨(blk_cell BK109.out 0).trans rfl, (blk_cell BK109.out 1).trans rfl, (blk_cell BK109.out 2).trans rfl, (blk_cell BK109.out 3).trans rfl⟩ (fun hHeld => ?_)
                              clear hK K
                              refine norm_ (a' := ?_) ?_ ?_
                              rotate_left
                              · show Act.put _ (some 65) _ = _
                                simp only [Act.put, List.setIfInBounds_toArray, List.set_cons_zero, List.set_cons_succ, i64_w, i32_w]
                                rfl
                              refine pure_ (i := 18) (N := some 66) (v := ?_) (a' := ?_) #[true, true, true, true, true, true, true, true, true, true, true, true, true, true, true, true, true, true, true, true, false, false, false, false, false, false, false, false, false, false, false, false, false, false, false, false, false, false, false, false, false, false, false, false, false, false] rfl rfl (any_of HT_.out (by kernel_rfl)) (fun _ _ _ h => h) (Or.inl ⟨by rfl, ?_⟩) ?_ ?_
                              rotate_left
                              · intro w'
                                go_simp
                                with_reducible rfl
                              rotate_left
                              · simp only [Act.put, List.setIfInBounds_toArray, List.set_cons_zero, List.set_cons_succ, i64_w, i32_w]
                                rfl
                              refine pure_ (i := 20) (N := some 68) (v := ?_) (a' := ?_) #[true, true, true, true, true, true, true, true, true, true, true, true, true, true, true, true, true, true, true, true, true, false, false, false, false, false, false, false, false, false, false, false, false, false, false, false, false, false, false, false, false, false, false, false, false, false] rfl rfl (any_of HT_.out (by kernel_rfl)) (fun _ _ _ h => h) (Or.inl ⟨by rfl, ?_⟩) ?_ ?_
                              rotate_left
                              · intro w'
                                go_simp
                                with_reducible rfl
                              rotate_left
                              · simp only [Act.put, List.setIfInBounds_toArray, List.set_cons_zero, List.set_cons_succ, i64_w, i32_w]
                                rfl
                              refine pure_ (i := 21) (N := some 69) (v := ?_) (a' := ?_) #[true, true, true, true, true, true, true, true, true, true, true, true, true, true, true, true, true, true, true, true, true, true, false, false, false, false, false, false, false, false, false, false, false, false, false, false, false, false, false, false, false, false, false, false, false, false] rfl rfl (any_of HT_.out (by kernel_rfl)) (fun _ _ _ h => h) (Or.inl ⟨by rfl, ?_⟩) ?_ ?_
                              rotate_left
                              · intro w'
                                go_simp
                                with_reducible rfl
                              rotate_left
                              · simp only [Act.put, List.setIfInBounds_toArray, List.set_cons_zero, List.set_cons_succ, i64_w, i32_w]
                                rfl
                              refine pure_ (i := 22) (N := some 70) (v := ?_) (a' := ?_) #[true, true, true, true, true, true, true, true, true, true, true, true, true, true, true, true, true, true, true, true, true, true, true, false, false, false, false, false, false, false, false, false, false, false, false, false, false, false, false, false, false, false, false, false, false, false] rfl rfl (any_of HT_.out (by kernel_rfl)) (fun _ _ _ h => h) (Or.inl ⟨by rfl, ?_⟩) ?_ ?_
                              rotate_left
                              · intro w'
                                go_simp
                                with_reducible rfl
                              rotate_left
                              · simp only [Act.put, List.setIfInBounds_toArray, List.set_cons_zero, List.set_cons_succ, i64_w, i32_w]
                                rfl
                              refine pure_ (i := 23) (N := some 71) (v := ?_) (a' := ?_) #[true, true, true, true, true, true, true, true, true, true, true, true, true, true, true, true, true, true, true, true, true, true, true, true, false, false, false, false, false, false, false, false, false, false, false, false, false, false, false, false, false, false, false, false, false, false] rfl rfl (any_of HT_.out (by kernel_rfl)) (fun _ _ _ h => h) (Or.inl ⟨by rfl, ?_⟩) ?_ ?_
                              rotate_left
                              · intro w'
                                go_simp
                                with_reducible rfl
                              rotate_left
                              · simp only [Act.put, List.setIfInBounds_toArray, List.set_cons_zero, List.set_cons_succ, i64_w, i32_w]
                                rfl
                              refine pure_ (i := 24) (N := some 72) (v := ?_) (a' := ?_) #[true, true, true, true, true, true, true, true, true, true, true, true, true, true, true, true, true, true, true, true, true, true, true, true, true, false, false, false, false, false, false, false, false, false, false, false, false, false, false, false, false, false, false, false, false, false] rfl rfl (any_of HT_.out (by kernel_rfl)) (fun _ _ _ h => h) (Or.inl ⟨by rfl, ?_⟩) ?_ ?_
                              rotate_left
                              · intro w'
                                go_simp
                                with_reducible rfl
                              rotate_left
                              · simp only [Act.put, List.setIfInBounds_toArray, List.set_cons_zero, List.set_cons_succ, i64_w, i32_w]
                                rfl
                              refine pure_ (i := 25) (N := some 73) (v := ?_) (a' := ?_) #[true, true, true, true, true, true, true, true, true, true, true, true, true, true, true, true, true, true, true, true, true, true, true, true, true, true, false, false, false, false, false, false, false, false, false, false, false, false, false, false, false, false, false, false, false, false] rfl rfl (any_of HT_.out (by kernel_rfl)) (fun _ _ _ h => h) (Or.inl ⟨by rfl, ?_⟩) ?_ ?_
                              rotate_left
                              · intro w'
                                go_simp
                                with_reducible rfl
                              rotate_left
                              · simp only [Act.put, List.setIfInBounds_toArray, List.set_cons_zero, List.set_cons_succ, i64_w, i32_w]
                                rfl
                              refine pure_ (i := 26) (N := some 74) (v := ?_) (a' := ?_) #[true, true, true, true, true, true, true, true, true, true, true, true, true, true, true, true, true, true, true, true, true, true, true, true, true, true, true, false, false, false, false, false, false, false, false, false, false, false, false, false, false, false, false, false, false, false] rfl rfl (any_of HT_.out (by kernel_rfl)) (fun _ _ _ h => h) (Or.inl ⟨by rfl, ?_⟩) ?_ ?_
                              rotate_left
                              · intro w'
                                go_simp
                                with_reducible rfl
                              rotate_left
                              · simp only [Act.put, List.setIfInBounds_toArray, List.set_cons_zero, List.set_cons_succ, i64_w, i32_w]
                                rfl
                              refine pure_ (i := 28) (N := some 76) (v := ?_) (a' := ?_) #[true, true, true, true, true, true, true, true, true, true, true, true, true, true, true, true, true, true, true, true, true, true, true, true, true, true, true, false, true, false, false, false, false, false, false, false, false, false, false, false, false, false, false, false, false, false] rfl rfl (any_of HT_.out (by kernel_rfl)) (fun _ _ _ h => h) (Or.inl ⟨by rfl, ?_⟩) ?_ ?_
                              rotate_left
                              · intro w'
                                go_simp
                                with_reducible rfl
                              rotate_left
                              · simp only [Act.put, List.setIfInBounds_toArray, List.set_cons_zero, List.set_cons_succ, i64_w, i32_w]
                                rfl
                              refine pure_ (i := 29) (N := some 77) (v := ?_) (a' := ?_) #[true, true, true, true, true, true, true, true, true, true, true, true, true, true, true, true, true, true, true, true, true, true, true, true, true, true, true, false, true, true, false, false, false, false, false, false, false, false, false, false, false, false, false, false, false, false] rfl rfl (any_of HT_.out (by kernel_rfl)) (fun _ _ _ h => h) (Or.inl ⟨by rfl, ?_⟩) ?_ ?_
                              rotate_left
                              · intro w'
                                go_simp
                                with_reducible rfl
                              rotate_left
                              · simp only [Act.put, List.setIfInBounds_toArray, List.set_cons_zero, List.set_cons_succ, i64_w, i32_w]
                                rfl
                              refine pure_ (i := 30) (N := some 78) (v := ?_) (a' := ?_) #[true, true, true, true, true, true, true, true, true, true, true, true, true, true, true, true, true, true, true, true, true, true, true, true, true, true, true, false, true, true, true, false, false, false, false, false, false, false, false, false, false, false, false, false, false, false] rfl rfl (any_of HT_.out (by kernel_rfl)) (fun _ _ _ h => h) (Or.inl ⟨by rfl, ?_⟩) ?_ ?_
                              rotate_left
                              · intro w'
                                go_simp
                                with_reducible rfl
                              rotate_left
                              · simp only [Act.put, List.setIfInBounds_toArray, List.set_cons_zero, List.set_cons_succ, i64_w, i32_w]
                                rfl
                              refine pure_ (i := 31) (N := some 79) (v := ?_) (a' := ?_) #[true, true, true, true, true, true, true, true, true, true, true, true, true, true, true, true, true, true, true, true, true, true, true, true, true, true, true, false, true, true, true, true, false, false, false, false, false, false, false, false, false, false, false, false, false, false] rfl rfl (any_of HT_.out (by kernel_rfl)) (fun _ _ _ h => h) (Or.inl ⟨by rfl, ?_⟩) ?_ ?_
                              rotate_left
                              · intro w'
                                go_simp
                                with_reducible rfl
                              rotate_left
                              · simp only [Act.put, List.setIfInBounds_toArray, List.set_cons_zero, List.set_cons_succ, i64_w, i32_w]
                                rfl
                              refine take_ (i := 27) (N := some 75) (v := ?_) (a' := ?_) #[true, true, true, true, true, true, true, true, true, true, true, true, true, true, true, true, true, true, true, true, true, true, true, true, true, true, true, true, true, true, true, true, false, false, false, false, false, false, false, false, false, false, false, false, false, false] rfl rfl (take_ofW HT_.out HW_.out (by kernel_rfl)) (fun _ _ _ h => h) (Or.inl ⟨by rfl, ?_⟩) hHeld ?_ ?_
                              rotate_left
                              · rintro w' ⟨s0, s1, s2, s3⟩
                                go_simp
                                with_reducible rfl
                              rotate_left
                              · simp only [Act.put, List.setIfInBounds_toArray, List.set_cons_zero, List.set_cons_succ, i64_w, i32_w]
                                rfl
                              refine one_ (i := 32) (N := some 80) #[true, true, true, true, true, true, true, true, true, true, true, true, true, true, true, true, true, true, true, true, true, true, true, true, true, true, true, true, true, true, true, true, true, false, false, false, false, false, false, false, false, false, false, false, false, false] rfl rfl (one_of HT_.out (by kernel_rfl)) (by decide) (fun K hK => ?_)
                              refine goes_ Tryd.func10 (by kernel_rfl) rfl #[.agg #[.slice none 0 0, .slice none 0 0, .slice Ao61 y106.length co61, .int .i64 0], .string ((a0 ++ (⟨#[64, 97, 46]⟩ : ByteArray)) ++ a1), .int .i64 0] (by rfl) rfl rfl (by (try simp only [List.map_toArray, List.map_cons, List.map_nil]); first | done | rfl | (simp only [List.length_drop, List.length_take]; rfl)) ?_
                              refine (PC.rule_From.calls _ _ ([] : List (S88)) _ _ ([] : List (S90)) _ _ y106 0 ((a0 ++ (⟨#[64, 97, 46]⟩ : ByteArray)) ++ a1) 0 t117 _ ?side1 ?side2 ?side3 ?side4 ?side5 ?side6 A54.out).mono ?_
                              (case side1 => exact Kd.C_nil _ _)
                              (case side2 => exact Nat.le_refl _)
                              (case side3 => exact Kd.C_nil _ _)
                              (case side4 => exact Nat.le_refl _)
                              (case side5 => repeat (first | exact (Kd.R_reads' HO108.out).2.2 | (with_reducible refine Kd.C_alloc ?_ _) | (with_reducible refine Kd.C_drewN ?_ _) | (with_reducible refine Kd.C_drew ?_)))
                              (case side6 => exact (Kd.R_reads' HO108.out).2.1)
                              rintro e w71 ⟨rfl, hb⟩
                              refine ⟨_, rfl, ?_⟩
                              have n0_ := Aside0.mk (Kd.R_below (by (with_reducible repeat (first | apply Kd.R_alloc | apply Kd.R_drewN | apply Kd.R_drew)); exact HO108.out) hb)
                              have n1_ := Aside0.mk (blk_below (g := gb109) (o := .cells #[.slice none 0 0, .slice none 0 0, .slice Ao61 y106.length co61, .int .i64 0] 26 (0, 0)) (by (with_reducible repeat (first | refine blk_drewN ?_ _ | refine blk_drew ?_ | refine blk_alloc ?_ _)); exact BK109.out) hb)
                              have n2_ := Aside0.mk (below_step (by repeat (first | (with_reducible first | exact HB.out | apply below_alloc | apply pw_below_drewN | apply below_drew1 | refine below_set ?_ GE109.out) | exact HB.out)) hb)
                              clear HO108
                              clear BK109
                              clear HB
                              have HO108 := n0_
                              have BK109 := n1_
                              have HB := n2_
                              clear n0_ n1_ n2_
                              (try clear hb)
                              (try clear hb2)
                              (try clear hk)
                              (try clear hi)
                              refine hK.out _ _ ⟨(blk_cell BK109.out 0).trans rfl, (blk_cell BK109.out 1).trans rfl, (blk_cell BK109.out 2).trans rfl, (blk_cell BK109.out 3).trans rfl⟩ (fun hHeld => ?_)
                              clear hK K
                              refine norm_ (a' := ?_) ?_ ?_
                              rotate_left
                              · show Act.put _ (some 80) _ = _
                                simp only [Act.put, List.setIfInBounds_toArray, List.set_cons_zero, List.set_cons_succ, i64_w, i32_w]
                                rfl
                              refine pure_ (i := 33) (N := some 81) (v := ?_) (a' := ?_) #[true, true, true, true, true, true, true, true, true, true, true, true, true, true, true, true, true, true, true, true, true, true, true, true, true, true, true, true, true, true, true, true, true, true, false, false, false, false, false, false, false, false, false, false, false, false] rfl rfl (any_of HT_.out (by kernel_rfl)) (fun _ _ _ h => h) (Or.inl ⟨by rfl, ?_⟩) ?_ ?_
                              rotate_left
                              · intro w'
                                go_simp
                                with_reducible rfl
                              rotate_left
                              · simp only [Act.put, List.setIfInBounds_toArray, List.set_cons_zero, List.set_cons_succ, i64_w, i32_w]
                                rfl
                              refine pure_ (i := 34) (N := some 82) (v := ?_) (a' := ?_) #[true, true, true, true, true, true, true, true, true, true, true, true, true, true, true, true, true, true, true, true, true, true, true, true, true, true, true, true, true, true, true, true, true, true, true, false, false, false, false, false, false, false, false, false, false, false] rfl rfl (any_of HT_.out (by kernel_rfl)) (fun _ _ _ h => h) (Or.inl ⟨by rfl, ?_⟩) ?_ ?_
                              rotate_left
                              · intro w'
                                go_simp
                                with_reducible rfl
                              rotate_left
                              · simp only [Act.put, List.setIfInBounds_toArray, List.set_cons_zero, List.set_cons_succ, i64_w, i32_w]
                                rfl
                              refine pure_ (i := 35) (N := some 83) (v := ?_) (a' := ?_) #[true, true, true, true, true, true, true, true, true, true, true, true, true, true, true, true, true, true, true, true, true, true, true, true, true, true, true, true, true, true, true, true, true, true, true, true, false, false, false, false, false, false, false, false, false, false] rfl rfl (any_of HT_.out (by kernel_rfl)) (fun _ _ _ h => h) (Or.inl ⟨by rfl, ?_⟩) ?_ ?_
                              rotate_left
                              · intro w'
                                go_simp
                                with_reducible rfl
                              rotate_left
                              · simp only [Act.put, List.setIfInBounds_toArray, List.set_cons_zero, List.set_cons_succ, i64_w, i32_w]
                                rfl
                              refine pure_ (i := 36) (N := some 84) (v := ?_) (a' := ?_) #[true, true, true, true, true, true, true, true, true, true, true, true, true, true, true, true, true, true, true, true, true, true, true, true, true, true, true, true, true, true, true, true, true, true, true, true, true, false, false, false, false, false, false, false, false, false] rfl rfl (any_of HT_.out (by kernel_rfl)) (fun _ _ _ h => h) (Or.inl ⟨by rfl, ?_⟩) ?_ ?_
                              rotate_left
                              · intro w'
                                go_simp
                                with_reducible rfl
                              rotate_left
                              · simp only [Act.put, List.setIfInBounds_toArray, List.set_cons_zero, List.set_cons_succ, i64_w, i32_w]
                                rfl
                              refine pure_ (i := 38) (N := some 86) (v := ?_) (a' := ?_) #[true, true, true, true, true, true, true, true, true, true, true, true, true, true, true, true, true, true, true, true, true, true, true, true, true, true, true, true, true, true, true, true, true, true, true, true, true, false, true, false, false, false, false, false, false, false] rfl rfl (any_of HT_.out (by kernel_rfl)) (fun _ _ _ h => h) (Or.inl ⟨by rfl, ?_⟩) ?_ ?_
                              rotate_left
                              · intro w'
                                go_simp
                                with_reducible rfl
                              rotate_left
                              · simp only [Act.put, List.setIfInBounds_toArray, List.set_cons_zero, List.set_cons_succ, i64_w, i32_w]
                                rfl
                              refine pure_ (i := 39) (N := some 87) (v := ?_) (a' := ?_) #[true, true, true, true, true, true, true, true, true, true, true, true, true, true, true, true, true, true, true, true, true, true, true, true, true, true, true, true, true, true, true, true, true, true, true, true, true, false, true, true, false, false, false, false, false, false] rfl rfl (any_of HT_.out (by kernel_rfl)) (fun _ _ _ h => h) (Or.inl ⟨by rfl, ?_⟩) ?_ ?_
                              rotate_left
                              · intro w'
                                go_simp
                                with_reducible rfl
                              rotate_left
                              · simp only [Act.put, List.setIfInBounds_toArray, List.set_cons_zero, List.set_cons_succ, i64_w, i32_w]
                                rfl
                              refine pure_ (i := 40) (N := some 88) (v := ?_) (a' := ?_) #[true, true, true, true, true, true, true, true, true, true, true, true, true, true, true, true, true, true, true, true, true, true, true, true, true, true, true, true, true, true, true, true, true, true, true, true, true, false, true, true, true, false, false, false, false, false] rfl rfl (any_of HT_.out (by kernel_rfl)) (fun _ _ _ h => h) (Or.inl ⟨by rfl, ?_⟩) ?_ ?_
                              rotate_left
                              · intro w'
                                go_simp
                                with_reducible rfl
                              rotate_left
                              · simp only [Act.put, List.setIfInBounds_toArray, List.set_cons_zero, List.set_cons_succ, i64_w, i32_w]
                                rfl
                              refine pure_ (i := 41) (N := some 89) (v := ?_) (a' := ?_) #[true, true, true, true, true, true, true, true, true, true, true, true, true, true, true, true, true, true, true, true, true, true, true, true, true, true, true, true, true, true, true, true, true, true, true, true, true, false, true, true, true, true, false, false, false, false] rfl rfl (any_of HT_.out (by kernel_rfl)) (fun _ _ _ h => h) (Or.inl ⟨by rfl, ?_⟩) ?_ ?_
                              rotate_left
                              · intro w'
                                go_simp
                                with_reducible rfl
                              rotate_left
                              · simp only [Act.put, List.setIfInBounds_toArray, List.set_cons_zero, List.set_cons_succ, i64_w, i32_w]
                                rfl
                              refine take_ (i := 37) (N := some 85) (v := ?_) (a' := ?_) #[true, true, true, true, true, true, true, true, true, true, true, true, true, true, true, true, true, true, true, true, true, true, true, true, true, true, true, true, true, true, true, true, true, true, true, true, true, true, true, true, true, true, false, false, false, false] rfl rfl (take_ofW HT_.out HW_.out (by kernel_rfl)) (fun _ _ _ h => h) (Or.inl ⟨by rfl, ?_⟩) hHeld ?_ ?_
                              rotate_left
                              · rintro w' ⟨s0, s1, s2, s3⟩
                                go_simp
                                with_reducible rfl
                              rotate_left
                              · simp only [Act.put, List.setIfInBounds_toArray, List.set_cons_zero, List.set_cons_succ, i64_w, i32_w]
                                rfl
                              refine one_ (i := 42) (N := some 90) #[true, true, true, true, true, true, true, true, true, true, true, true, true, true, true, true, true, true, true, true, true, true, true, true, true, true, true, true, true, true, true, true, true, true, true, true, true, true, true, true, true, true, true, false, false, false] rfl rfl (one_of HT_.out (by kernel_rfl)) (by decide) (fun K hK => ?_)
                              refine goes_ Tryd.func11 (by kernel_rfl) rfl #[.agg #[.slice none 0 0, .slice none 0 0, .slice Ao61 y106.length co61, .int .i64 0], .string ((a0 ++ (⟨#[64]⟩ : ByteArray)) ++ a1)] (by rfl) rfl rfl (by (try simp only [List.map_toArray, List.map_cons, List.map_nil]); first | done | rfl | (simp only [List.length_drop, List.length_take]; rfl)) ?_
                              refine (PC.rule_Rcpt.calls _ _ ([] : List (S88)) _ _ ([] : List (S90)) _ _ y106 0 ((a0 ++ (⟨#[64]⟩ : ByteArray)) ++ a1) t118 _ ?side1 ?side2 ?side3 ?side4 ?side5 ?side6 A57.out).mono ?_
                              (case side1 => exact Kd.C_nil _ _)
                              (case side2 => exact Nat.le_refl _)
                              (case side3 => exact Kd.C_nil _ _)
                              (case side4 => exact Nat.le_refl _)
                              (case side5 => repeat (first | exact (Kd.R_reads' HO108.out).2.2 | (with_reducible refine Kd.C_alloc ?_ _) | (with_reducible refine Kd.C_drewN ?_ _) | (with_reducible refine Kd.C_drew ?_)))
                              (case side6 => exact (Kd.R_reads' HO108.out).2.1)
                              rintro e w72 ⟨rfl, hb⟩
                              refine ⟨_, rfl, ?_⟩
                              have n0_ := Aside0.mk (Kd.R_below (by (with_reducible repeat (first | apply Kd.R_alloc | apply Kd.R_drewN | apply Kd.R_drew)); exact HO108.out) hb)
                              have n1_ := Aside0.mk (blk_below (g := gb109) (o := .cells #[.slice none 0 0, .slice none 0 0, .slice Ao61 y106.length co61, .int .i64 0] 26 (0, 0)) (by (with_reducible repeat (first | refine blk_drewN ?_ _ | refine blk_drew ?_ | refine blk_alloc ?_ _)); exact BK109.out) hb)
                              have n2_ := Aside0.mk (below_step (by repeat (first | (with_reducible first | exact HB.out | apply below_alloc | apply pw_below_drewN | apply below_drew1 | refine below_set ?_ GE109.out) | exact HB.out)) hb)
                              clear HO108
                              clear BK109
                              clear HB
                              have HO108 := n0_
                              have BK109 := n1_
                              have HB := n2_
                              clear n0_ n1_ n2_
                              (try clear hb)
                              (try clear hb2)
                              (try clear hk)
                              (try clear hi)
                              refine hK.out _ _ ⟨(blk_cell BK109.out 0).trans rfl, (blk_cell BK109.out 1).trans rfl, (blk_cell BK109.out 2).trans rfl, (blk_cell BK109.out 3).trans rfl⟩ (fun hHeld => ?_)
                              clear hK K
                              refine norm_ (a' := ?_) ?_ ?_
                              rotate_left
                              · show Act.put _ (some 90) _ = _
                                simp only [Act.put, List.setIfInBounds_toArray, List.set_cons_zero, List.set_cons_succ, i64_w, i32_w]
                                rfl
                              refine pure_ (i := 43) (N := some 91) (v := ?_) (a' := ?_) #[true, true, true, true, true, true, true, true, true, true, true, true, true, true, true, true, true, true, true, true, true, true, true, true, true, true, true, true, true, true, true, true, true, true, true, true, true, true, true, true, true, true, true, true, false, false] rfl rfl (any_of HT_.out (by kernel_rfl)) (fun _ _ _ h => h) (Or.inl ⟨by rfl, ?_⟩) ?_ ?_
                              rotate_left
                              · intro w'
                                go_simp
                                with_reducible rfl
                              rotate_left
                              · simp only [Act.put, List.setIfInBounds_toArray, List.set_cons_zero, List.set_cons_succ, i64_w, i32_w]
                                rfl
                              refine pure_ (i := 44) (N := some 92) (v := ?_) (a' := ?_) #[true, true, true, true, true, true, true, true, true, true, true, true, true, true, true, true, true, true, true, true, true, true, true, true, true, true, true, true, true, true, true, true, true, true, true, true, true, true, true, true, true, true, true, true, true, false] rfl rfl (any_of HT_.out (by kernel_rfl)) (fun _ _ _ h => h) (Or.inl ⟨by rfl, ?_⟩) ?_ ?_
                              rotate_left
                              · intro w'
                                go_simp
                                with_reducible rfl
                              rotate_left
                              · simp only [Act.put, List.setIfInBounds_toArray, List.set_cons_zero, List.set_cons_succ, i64_w, i32_w]
                                rfl
                              refine pure_ (i := 45) (N := some 6) (v := ?_) (a' := ?_) #[true, true, true, true, true, true, true, true, true, true, true, true, true, true, true, true, true, true, true, true, true, true, true, true, true, true, true, true, true, true, true, true, true, true, true, true, true, true, true, true, true, true, true, true, true, true] rfl rfl (any_of HT_.out (by kernel_rfl)) (fun _ _ _ h => h) (Or.inl ⟨by rfl, ?_⟩) ?_ ?_
                              rotate_left
                              · intro w'
                                go_simp
                                with_reducible rfl
                              rotate_left
                              · simp only [Act.put, List.setIfInBounds_toArray, List.set_cons_zero, List.set_cons_succ, i64_w, i32_w]
                                rfl
                              refine done_ (done_of HT_.out (by kernel_rfl)) ?_
                              try go_wp2
                              go_ret
                              exact ⟨by first | rfl | (simp [errW_none, errW_some] <;> rfl) | (simp [*, errW_none, errW_some] <;> rfl), by repeat (first | (with_reducible first | exact HB.out | apply below_alloc | apply pw_below_drewN | apply below_drew1 | refine below_set ?_ GE109.out) | exact HB.out)⟩
                            · rw [if_neg c56] at H
                              exact absurd H (by simp)
                          · rw [if_neg c55] at H
                            exact absurd (Option.some.inj H) (by rw [hr_.out]; simp)
                        · rw [if_neg c53] at H
                          exact absurd H (by simp)
                      · rw [if_neg c52] at H
                        exact absurd H (by simp)
                  · rw [if_neg c34] at H
                    exact absurd (Option.some.inj H) (by rw [hr_.out]; simp)
                · rw [if_neg c32] at H
                  exact absurd H (by simp)
              · rw [if_neg c31] at H
                exact absurd (Option.some.inj H) (by rw [hr_.out]; simp)
            · rw [if_neg c29] at H
              exact absurd H (by simp)
          · rw [if_neg c27] at H
            exact absurd H (by simp)
        · replace c26 := Bool.eq_false_iff.mpr c26
          subst c26
          have H1 : (some false) = some r := by rw [if_neg (show ¬ (false = true) by decide)] at H; exact H
          exact absurd (Option.some.inj H1) (by rw [hr_.out]; simp)
/-- THE ONE PURE STATEMENT of estafettelaw18_RuleDomains: yours. -/
def estafettelaw18_RuleDomains.Pure : Prop := ∀ (a0 : ByteArray) (a1 : ByteArray) (a2 : ByteArray), a0.size ≤ 140737488351232 → a1.size ≤ 140737488351232 → a2.size ≤ 140737488351232 → ∃ k, estafettelaw18_RuleDomains.f k a0 a1 a2 = some true
theorem estafettelaw18_RuleDomains.walk (P : estafettelaw18_RuleDomains.Pure) (a0 : ByteArray) (a1 : ByteArray) (a2 : ByteArray) (w : World) (w0 : a0.size ≤ 140737488351232) (w1 : a1.size ≤ 140737488351232) (w2 : a2.size ≤ 140737488351232) :
    Calls Tryd.prog 5 #[.string a0, .string a1, .string a2] w fun e w' => e = .returned (.bool true) ∧ Below w.heap.size w w' := by
  obtain ⟨k, h⟩ := P a0 a1 a2 w0 w1 w2
  refine (estafettelaw18_RuleDomains.calls k a0 a1 a2 true rfl w h).mono ?_
  rintro e w' ⟨rfl, hd⟩
  exact ⟨rfl, hd⟩

end Go.Proofs.YtpkeplifflnemaaDoor.PF
