/- For every input: what the functions below return, or the statement that this text proves. Written by a program of this claim.s author (a turned print). -/
import Derived.Test.YtikfdngidbppbaaDoorPBx0
import Derived.Test.YtikfdngidbppbaaDoorPBx1
import Derived.Test.YtikfdngidbppbaaDoorPBx2
import Derived.Test.YtikfdngidbppbaaDoorPBx3
namespace Go.Proofs.YtikfdngidbppbaaDoor.PB
open Go.RowKit Go.Proofs.YtikfdngidbppbaaDoorW.PrintWords Go.Proofs.YtikfdngidbppbaaDoorW.PrintLast Go.Proofs.YtikfdngidbppbaaDoorW.PrintMore
attribute [local go_sem] max2_int min2_int max_two min_two max_three min_three max_four min_four   -- for this text's walks alone
set_option linter.unusedVariables false
set_option linter.unusedSimpArgs false

/-! ### estafettelaw01_AddrTwice: function 5 -/
mutual
def estafettelaw01_AddrTwice.j0 : Nat → ByteArray → ByteArray → Bool → Option (Bool)
  | 0, _, _, _ => none
  | k + 1, x0, x1, x22 => if x22 = true then ((estafettelaw01_answers.f k).bind fun t181 => (some t181)) else (if x0.size + 1 ≤ 9223372036854775807 then (if (x0 ++ (⟨#[64]⟩ : ByteArray)).size + x1.size ≤ 9223372036854775807 then ((addr_Canon.f ((x0 ++ (⟨#[64]⟩ : ByteArray)) ++ x1)).bind fun bt182 => ((estafetteref01_Local.f k x0).bind fun t184 => (if t184 = true then ((estafetteref01_Domain.f k x1).bind fun t185 => (estafettelaw01_AddrTwice.j1 k x0 x1 ((x0 ++ (⟨#[64]⟩ : ByteArray)) ++ x1) bt182.1 bt182.2 (bt182.2 != t185))) else (estafettelaw01_AddrTwice.j1 k x0 x1 ((x0 ++ (⟨#[64]⟩ : ByteArray)) ++ x1) bt182.1 bt182.2 (bt182.2 != false))))) else (none)) else (none))
def estafettelaw01_AddrTwice.j1 : Nat → ByteArray → ByteArray → ByteArray → ByteArray → Bool → Bool → Option (Bool)
  | 0, _, _, _, _, _, _ => none
  | k + 1, x0, x1, x5, x6, x7, x40 => if x40 = true then (some false) else (if x7 = true then ((addr_Canon.f x6).bind fun bt187 => ((addr_Split.f x6).bind fun bt189 => (if 1 + x5.size ≤ 9223372036854775807 then (if ((⟨#[60]⟩ : ByteArray) ++ x5).size + 1 ≤ 9223372036854775807 then ((addr_Path.f k (((⟨#[60]⟩ : ByteArray) ++ x5) ++ (⟨#[62]⟩ : ByteArray))).bind fun bt192 => ((estafettelaw01_answers.f k).bind fun t194 => (if t194 = true then (if bt187.2 = true then (if bt187.1.toList = x6.toList then (if bt189.2.2 = true then (if bt189.1.toList = x0.toList then ((Hand.ref_Lower.f x1).bind fun t195 => (if bt189.2.1.toList = t195.toList then (if bt192.2 = true then (some (bt192.1.toList == x6.toList)) else (some false)) else (some false))) else (some false)) else (some false)) else (some false)) else (some false)) else (some false)))) else (none)) else (none)))) else ((estafettelaw01_answers.f k).bind fun t186 => (if t186 = true then (some (x6.toList == ([] : List UInt8))) else (some false))))
end
def estafettelaw01_AddrTwice.f (k : Nat) (a0 : ByteArray) (a1 : ByteArray) : Option (Bool) := if (a0.size : Int) > 100 then (estafettelaw01_AddrTwice.j0 k a0 a1 true) else (estafettelaw01_AddrTwice.j0 k a0 a1 (decide ((a1.size : Int) > 300)))
theorem estafettelaw01_AddrTwice.mono_l : ∀ k, (∀ y0 y1 y2, LeO (estafettelaw01_AddrTwice.j0 k y0 y1 y2) (estafettelaw01_AddrTwice.j0 (k + 1) y0 y1 y2)) ∧ (∀ y0 y1 y2 y3 y4 y5, LeO (estafettelaw01_AddrTwice.j1 k y0 y1 y2 y3 y4 y5) (estafettelaw01_AddrTwice.j1 (k + 1) y0 y1 y2 y3 y4 y5))
  | 0 => ⟨fun _ _ _ r h => by simp [estafettelaw01_AddrTwice.j0] at h, fun _ _ _ _ _ _ r h => by simp [estafettelaw01_AddrTwice.j1] at h⟩
  | k + 1 => by
    obtain ⟨ih0, ih1⟩ := estafettelaw01_AddrTwice.mono_l k
    refine ⟨?_, ?_⟩
    · intro y0 y1 y2
      unfold estafettelaw01_AddrTwice.j0
      repeat' first
      | (with_reducible exact ih0 _ _ _)
      | (with_reducible exact ih1 _ _ _ _ _ _)
      | (with_reducible exact addr_Path.mono _ _)
      | (with_reducible exact estafettelaw01_answers.mono _)
      | (with_reducible exact estafetteref01_Domain.mono _ _)
      | (with_reducible exact estafetteref01_Local.mono _ _)
      | (with_reducible exact LeO.refl _)
      | (with_reducible exact LeO.none _)
      | (with_reducible refine LeO.ite ?_ ?_)
      | (with_reducible refine LeO.bind ?_ (fun _ => ?_))
      | exact ih0 _ _ _
      | exact ih1 _ _ _ _ _ _
      | exact addr_Path.mono _ _
      | exact estafettelaw01_answers.mono _
      | exact estafetteref01_Domain.mono _ _
      | exact estafetteref01_Local.mono _ _
      | exact LeO.none _
      | refine LeO.ite ?_ ?_
      | refine LeO.bind ?_ (fun _ => ?_)
    · intro y0 y1 y2 y3 y4 y5
      unfold estafettelaw01_AddrTwice.j1
      repeat' first
      | (with_reducible exact ih0 _ _ _)
      | (with_reducible exact ih1 _ _ _ _ _ _)
      | (with_reducible exact addr_Path.mono _ _)
      | (with_reducible exact estafettelaw01_answers.mono _)
      | (with_reducible exact estafetteref01_Domain.mono _ _)
      | (with_reducible exact estafetteref01_Local.mono _ _)
      | (with_reducible exact LeO.refl _)
      | (with_reducible exact LeO.none _)
      | (with_reducible refine LeO.ite ?_ ?_)
      | (with_reducible refine LeO.bind ?_ (fun _ => ?_))
      | exact ih0 _ _ _
      | exact ih1 _ _ _ _ _ _
      | exact addr_Path.mono _ _
      | exact estafettelaw01_answers.mono _
      | exact estafetteref01_Domain.mono _ _
      | exact estafetteref01_Local.mono _ _
      | exact LeO.none _
      | refine LeO.ite ?_ ?_
      | refine LeO.bind ?_ (fun _ => ?_)
theorem estafettelaw01_AddrTwice.mono : ∀ a0 a1 k, LeO (estafettelaw01_AddrTwice.f k a0 a1) (estafettelaw01_AddrTwice.f (k + 1) a0 a1) := by
  intro a0 a1 k
  obtain ⟨ih0, ih1⟩ := estafettelaw01_AddrTwice.mono_l k
  unfold estafettelaw01_AddrTwice.f
  repeat' first
      | (with_reducible exact ih0 _ _ _)
      | (with_reducible exact ih1 _ _ _ _ _ _)
      | (with_reducible exact addr_Path.mono _ _)
      | (with_reducible exact estafettelaw01_answers.mono _)
      | (with_reducible exact estafetteref01_Domain.mono _ _)
      | (with_reducible exact estafetteref01_Local.mono _ _)
      | (with_reducible exact LeO.refl _)
      | (with_reducible exact LeO.none _)
      | (with_reducible refine LeO.ite ?_ ?_)
      | (with_reducible refine LeO.bind ?_ (fun _ => ?_))
      | exact ih0 _ _ _
      | exact ih1 _ _ _ _ _ _
      | exact addr_Path.mono _ _
      | exact estafettelaw01_answers.mono _
      | exact estafetteref01_Domain.mono _ _
      | exact estafetteref01_Local.mono _ _
      | exact LeO.none _
      | refine LeO.ite ?_ ?_
      | refine LeO.bind ?_ (fun _ => ?_)
set_option maxHeartbeats 8000000 in
set_option maxRecDepth 100000 in
theorem estafettelaw01_AddrTwice.calls (k : Nat) (a0 : ByteArray) (a1 : ByteArray) (r : Bool) (w : World) (h : estafettelaw01_AddrTwice.f k a0 a1 = some r) :
    Calls Tryd.prog 5 #[.string a0, .string a1] w fun e w' => e = .returned (.bool r) ∧ Below w.heap.size w w' := by
  have HB := Aside0.mk (Below.refl w.heap.size w)
  have H : (if (a0.size : Int) > 100 then (estafettelaw01_AddrTwice.j0 k a0 a1 true) else (estafettelaw01_AddrTwice.j0 k a0 a1 (decide ((a1.size : Int) > 300)))) = some r := h
  clear h
  have HC3 := Aside0.mk H
  clear H
  go_enter Tryd.func5, Tryd.ntmps5
  go_upto_region 1 with (fail)
  go_cut [22] (fun v22 wc => ∃ (kq : Nat) (x22_2 : Bool), v22 = .bool x22_2 ∧ Aside0 (estafettelaw01_AddrTwice.j0 kq a0 a1 x22_2 = some r) ∧ Aside0 (kq ≤ k) ∧ Aside0 (Below w.heap.size w wc))
  case first =>
    have H := HC3.out
    clear HC3
    by_cases c4 : (a0.size : Int) > 100
    · rw [if_pos c4] at H
      have c4b0 : decide (100 < (a0.size : Int)) = true := decide_eq_true c4
      have c4b1 : decide (100 < a0.size) = true := decide_eq_true (by omega)
      clear c4
      (first | rw [c4b0] | (simp only [i64_w, i32_w]; rw [c4b0]) | skip)
      have H' := Aside0.mk H
      clear H
      go_wp2
      go_meet
      case rel => exact ⟨_, (true), (by first | rfl | (simp; done) | (simp [*]; done)), H', ⟨by first | omega | exact Nat.le_refl _⟩, ⟨by repeat (first | (with_reducible first | exact HB.out | apply below_alloc | apply pw_below_drewN | apply below_drew1) | exact HB.out)⟩⟩
    · rw [if_neg c4] at H
      have c4b0 : decide (100 < (a0.size : Int)) = false := decide_eq_false c4
      have c4b1 : decide (100 < a0.size) = false := decide_eq_false (by omega)
      clear c4
      (first | rw [c4b0] | (simp only [i64_w, i32_w]; rw [c4b0]) | skip)
      have H' := Aside0.mk H
      clear H
      go_wp2
      go_meet
      case rel => exact ⟨_, (decide ((a1.size : Int) > 300)), (by first | rfl | (simp; done) | (simp [*]; done)), H', ⟨by first | omega | exact Nat.le_refl _⟩, ⟨by repeat (first | (with_reducible first | exact HB.out | apply below_alloc | apply pw_below_drewN | apply below_drew1) | exact HB.out)⟩⟩
  case rest =>
    clear HC3
    try clear p2
    try clear c4
    try clear c4b0
    try clear c4b1
    obtain ⟨kq, x22_2, rfl, HA, HJ2, HB⟩ := hcut
    cases kq with
    | zero => exact absurd HA.out (by simp [estafettelaw01_AddrTwice.j0])
    | succ kj2 =>
      have H := HA.out
      clear HA
      simp only [estafettelaw01_AddrTwice.j0] at H
      by_cases c5 : x22_2 = true
      · subst c5
        have H1 : ((estafettelaw01_answers.f kj2).bind fun t181 => (some t181)) = some r := by rw [if_pos rfl] at H; exact H
        clear H
        have H := H1
        clear H1
        replace H := Option.bind_eq_some_iff.mp H
        obtain ⟨t181, A60, H⟩ := H
        replace H : (some t181) = some r := H
        have A6 := Aside0.mk A60
        clear A60
        obtain rfl := Option.some.inj H
        go_wp2_with (first | ((with_reducible refine gate_callee (f := 8) rfl ?_); refine goesL_ (some 23) rfl rfl Tryd.func8 (by kernel_rfl) rfl #[] rfl (by (try simp only [List.map_toArray, List.map_cons, List.map_nil]); first | done | rfl | (simp only [List.length_drop, List.length_take]; rfl)) ?_; (with_reducible refine (estafettelaw01_answers.calls kj2  t181 _ A6.out).mono ?_); rintro e w7 ⟨rfl, hb⟩; refine ⟨_, rfl, ?_⟩; have n0_ := Aside0.mk (below_step (by repeat (first | (with_reducible first | exact HB.out | apply below_alloc | apply pw_below_drewN | apply below_drew1) | exact HB.out)) hb); clear HB; have HB := n0_; clear n0_; (try clear hb); (try clear hb2); (try clear hk); (try clear hi)))
        go_ret
        exact ⟨by first | rfl | (simp [errW_none, errW_some] <;> rfl) | (simp [*, errW_none, errW_some] <;> rfl), by repeat (first | (with_reducible first | exact HB.out | apply below_alloc | apply pw_below_drewN | apply below_drew1) | exact HB.out)⟩
      · replace c5 := Bool.eq_false_iff.mpr c5
        subst c5
        have H1 : (if a0.size + 1 ≤ 9223372036854775807 then (if (a0 ++ (⟨#[64]⟩ : ByteArray)).size + a1.size ≤ 9223372036854775807 then ((addr_Canon.f ((a0 ++ (⟨#[64]⟩ : ByteArray)) ++ a1)).bind fun bt182 => ((estafetteref01_Local.f kj2 a0).bind fun t184 => (if t184 = true then ((estafetteref01_Domain.f kj2 a1).bind fun t185 => (estafettelaw01_AddrTwice.j1 kj2 a0 a1 ((a0 ++ (⟨#[64]⟩ : ByteArray)) ++ a1) bt182.1 bt182.2 (bt182.2 != t185))) else (estafettelaw01_AddrTwice.j1 kj2 a0 a1 ((a0 ++ (⟨#[64]⟩ : ByteArray)) ++ a1) bt182.1 bt182.2 (bt182.2 != false))))) else (none)) else (none)) = some r := by rw [if_neg (show ¬ (false = true) by decide)] at H; exact H
        clear H
        have H := H1
        clear H1
        by_cases c8 : a0.size + 1 ≤ 9223372036854775807
        · rw [if_pos c8] at H
          have c8b0 := eq_true c8
          have c8b1 : decide (a0.size + 1 ≤ 9223372036854775807) = true := decide_eq_true c8
          try have c8b2 : (9223372036854775807 < a0.size + 1) = False := eq_false (Nat.not_lt.2 c8)
          by_cases c9 : (a0 ++ (⟨#[64]⟩ : ByteArray)).size + a1.size ≤ 9223372036854775807
          · rw [if_pos c9] at H
            have c9b0 := eq_true c9
            have c9b1 : decide ((a0 ++ (⟨#[64]⟩ : ByteArray)).size + a1.size ≤ 9223372036854775807) = true := decide_eq_true c9
            try have c9b2 : (9223372036854775807 < (a0 ++ (⟨#[64]⟩ : ByteArray)).size + a1.size) = False := eq_false (Nat.not_lt.2 c9)
            have c9z0 : (⟨#[64]⟩ : ByteArray).size = 1 := rfl
            (try (have c9p := c9; simp only [ByteArray.size_append, List.length_append, c9z0] at c9p))
            replace H := Option.bind_eq_some_iff.mp H
            obtain ⟨⟨t182, t183⟩, A100, H⟩ := H
            replace H : ((estafetteref01_Local.f kj2 a0).bind fun t184 => (if t184 = true then ((estafetteref01_Domain.f kj2 a1).bind fun t185 => (estafettelaw01_AddrTwice.j1 kj2 a0 a1 ((a0 ++ (⟨#[64]⟩ : ByteArray)) ++ a1) t182 t183 (t183 != t185))) else (estafettelaw01_AddrTwice.j1 kj2 a0 a1 ((a0 ++ (⟨#[64]⟩ : ByteArray)) ++ a1) t182 t183 (t183 != false)))) = some r := H
            have A10 := Aside0.mk A100
            clear A100
            have HC11 := Aside0.mk H
            clear H
            go_upto_region 5 with (first | ((with_reducible refine gate_callee (f := 11) rfl ?_); refine goesL_ (some 30) rfl rfl Tryd.func11 (by kernel_rfl) rfl #[.string ((a0 ++ (⟨#[64]⟩ : ByteArray)) ++ a1)] rfl (by (try simp only [List.map_toArray, List.map_cons, List.map_nil]); first | done | rfl | (simp only [List.length_drop, List.length_take]; rfl)) ?_; (with_reducible refine (addr_Canon.calls ((a0 ++ (⟨#[64]⟩ : ByteArray)) ++ a1) t182 t183 _ A10.out).mono ?_); rintro e w12 ⟨rfl, hb⟩; refine ⟨_, rfl, ?_⟩; have n0_ := Aside0.mk (below_step (by repeat (first | (with_reducible first | exact HB.out | apply below_alloc | apply pw_below_drewN | apply below_drew1) | exact HB.out)) hb); clear HB; have HB := n0_; clear n0_; (try clear hb); (try clear hb2); (try clear hk); (try clear hi)))
            (try simp only [Act.put, List.setIfInBounds_toArray, List.set_cons_zero, List.set_cons_succ])
            go_cut [40] (fun v40 wc => ∃ (kq : Nat) (x40_10 : Bool), v40 = .bool x40_10 ∧ Aside0 (estafettelaw01_AddrTwice.j1 kq a0 a1 ((a0 ++ (⟨#[64]⟩ : ByteArray)) ++ a1) t182 t183 x40_10 = some r) ∧ Aside0 (kq ≤ kj2) ∧ Aside0 (Below w.heap.size w wc))
            case first =>
              have H := HC11.out
              clear HC11
              replace H := Option.bind_eq_some_iff.mp H
              obtain ⟨t184, A130, H⟩ := H
              replace H : (if t184 = true then ((estafetteref01_Domain.f kj2 a1).bind fun t185 => (estafettelaw01_AddrTwice.j1 kj2 a0 a1 ((a0 ++ (⟨#[64]⟩ : ByteArray)) ++ a1) t182 t183 (t183 != t185))) else (estafettelaw01_AddrTwice.j1 kj2 a0 a1 ((a0 ++ (⟨#[64]⟩ : ByteArray)) ++ a1) t182 t183 (t183 != false))) = some r := H
              have A13 := Aside0.mk A130
              clear A130
              by_cases c14 : t184 = true
              · subst c14
                have H1 : ((estafetteref01_Domain.f kj2 a1).bind fun t185 => (estafettelaw01_AddrTwice.j1 kj2 a0 a1 ((a0 ++ (⟨#[64]⟩ : ByteArray)) ++ a1) t182 t183 (t183 != t185))) = some r := by rw [if_pos rfl] at H; exact H
                clear H
                have H := H1
                clear H1
                replace H := Option.bind_eq_some_iff.mp H
                obtain ⟨t185, A150, H⟩ := H
                replace H : (estafettelaw01_AddrTwice.j1 kj2 a0 a1 ((a0 ++ (⟨#[64]⟩ : ByteArray)) ++ a1) t182 t183 (t183 != t185)) = some r := H
                have A15 := Aside0.mk A150
                clear A150
                have H' := Aside0.mk H
                clear H
                go_wp2_with (first | ((with_reducible refine gate_callee (f := 14) rfl ?_); refine goesL_ (some 35) rfl rfl Tryd.func14 (by kernel_rfl) rfl #[.string a0] rfl (by (try simp only [List.map_toArray, List.map_cons, List.map_nil]); first | done | rfl | (simp only [List.length_drop, List.length_take]; rfl)) ?_; (with_reducible refine (estafetteref01_Local.calls kj2 a0 true _ A13.out).mono ?_); rintro e w16 ⟨rfl, hb⟩; refine ⟨_, rfl, ?_⟩; have n0_ := Aside0.mk (below_step (by repeat (first | (with_reducible first | exact HB.out | apply below_alloc | apply pw_below_drewN | apply below_drew1) | exact HB.out)) hb); clear HB; have HB := n0_; clear n0_; (try clear hb); (try clear hb2); (try clear hk); (try clear hi)) | (go_at_call 16; (with_reducible refine (estafetteref01_Domain.calls kj2 a1 t185 _ A15.out).mono ?_); rintro e w17 ⟨rfl, hb⟩; have n0_ := Aside0.mk (below_step (by repeat (first | (with_reducible first | exact HB.out | apply below_alloc | apply pw_below_drewN | apply below_drew1) | exact HB.out)) hb); clear HB; have HB := n0_; clear n0_; (try clear hb); (try clear hb2); (try clear hk); (try clear hi)))
                go_meet
                case rel => exact ⟨_, ((t183 != t185)), (by first | rfl | (simp; done) | (simp [*]; done)), H', ⟨by have := HJ2.out; first | omega | exact Nat.le_refl _⟩, ⟨by repeat (first | (with_reducible first | exact HB.out | apply below_alloc | apply pw_below_drewN | apply below_drew1) | exact HB.out)⟩⟩
              · replace c14 := Bool.eq_false_iff.mpr c14
                subst c14
                have H1 : (estafettelaw01_AddrTwice.j1 kj2 a0 a1 ((a0 ++ (⟨#[64]⟩ : ByteArray)) ++ a1) t182 t183 (t183 != false)) = some r := by rw [if_neg (show ¬ (false = true) by decide)] at H; exact H
                clear H
                have H := H1
                clear H1
                have H' := Aside0.mk H
                clear H
                go_wp2_with (first | ((with_reducible refine gate_callee (f := 14) rfl ?_); refine goesL_ (some 35) rfl rfl Tryd.func14 (by kernel_rfl) rfl #[.string a0] rfl (by (try simp only [List.map_toArray, List.map_cons, List.map_nil]); first | done | rfl | (simp only [List.length_drop, List.length_take]; rfl)) ?_; (with_reducible refine (estafetteref01_Local.calls kj2 a0 false _ A13.out).mono ?_); rintro e w18 ⟨rfl, hb⟩; refine ⟨_, rfl, ?_⟩; have n0_ := Aside0.mk (below_step (by repeat (first | (with_reducible first | exact HB.out | apply below_alloc | apply pw_below_drewN | apply below_drew1) | exact HB.out)) hb); clear HB; have HB := n0_; clear n0_; (try clear hb); (try clear hb2); (try clear hk); (try clear hi)))
                go_meet
                case rel => exact ⟨_, ((t183 != false)), (by first | rfl | (simp; done) | (simp [*]; done)), H', ⟨by have := HJ2.out; first | omega | exact Nat.le_refl _⟩, ⟨by repeat (first | (with_reducible first | exact HB.out | apply below_alloc | apply pw_below_drewN | apply below_drew1) | exact HB.out)⟩⟩
            case rest =>
              clear HC11
              try clear c1
              try clear p2
              try clear c4
              try clear c4b0
              try clear c4b1
              try clear c5
              try clear c8
              try clear c8b0
              try clear c8b1
              try clear c8b2
              try clear c9
              try clear c9b0
              try clear c9b1
              try clear c9b2
              try clear c11
              try clear c14
              try clear p2
              obtain ⟨kq, x40_10, rfl, HA, HJ10, HB⟩ := hcut
              cases kq with
              | zero => exact absurd HA.out (by simp [estafettelaw01_AddrTwice.j1])
              | succ kj10 =>
                have H := HA.out
                clear HA
                simp only [estafettelaw01_AddrTwice.j1] at H
                by_cases c19 : x40_10 = true
                · subst c19
                  have H1 : (some false) = some r := by rw [if_pos rfl] at H; exact H
                  clear H
                  have H := H1
                  clear H1
                  obtain rfl := Option.some.inj H
                  go_wp2
                  go_ret
                  exact ⟨by first | rfl | (simp [errW_none, errW_some] <;> rfl) | (simp [*, errW_none, errW_some] <;> rfl), by repeat (first | (with_reducible first | exact HB.out | apply below_alloc | apply pw_below_drewN | apply below_drew1) | exact HB.out)⟩
                · replace c19 := Bool.eq_false_iff.mpr c19
                  subst c19
                  have H1 : (if t183 = true then ((addr_Canon.f t182).bind fun bt187 => ((addr_Split.f t182).bind fun bt189 => (if 1 + ((a0 ++ (⟨#[64]⟩ : ByteArray)) ++ a1).size ≤ 9223372036854775807 then (if ((⟨#[60]⟩ : ByteArray) ++ ((a0 ++ (⟨#[64]⟩ : ByteArray)) ++ a1)).size + 1 ≤ 9223372036854775807 then ((addr_Path.f kj10 (((⟨#[60]⟩ : ByteArray) ++ ((a0 ++ (⟨#[64]⟩ : ByteArray)) ++ a1)) ++ (⟨#[62]⟩ : ByteArray))).bind fun bt192 => ((estafettelaw01_answers.f kj10).bind fun t194 => (if t194 = true then (if bt187.2 = true then (if bt187.1.toList = t182.toList then (if bt189.2.2 = true then (if bt189.1.toList = a0.toList then ((Hand.ref_Lower.f a1).bind fun t195 => (if bt189.2.1.toList = t195.toList then (if bt192.2 = true then (some (bt192.1.toList == t182.toList)) else (some false)) else (some false))) else (some false)) else (some false)) else (some false)) else (some false)) else (some false)))) else (none)) else (none)))) else ((estafettelaw01_answers.f kj10).bind fun t186 => (if t186 = true then (some (t182.toList == ([] : List UInt8))) else (some false)))) = some r := by rw [if_neg (show ¬ (false = true) by decide)] at H; exact H
                  clear H
                  have H := H1
                  clear H1
                  by_cases c20 : t183 = true
                  · subst c20
                    have H1 : ((addr_Canon.f t182).bind fun bt187 => ((addr_Split.f t182).bind fun bt189 => (if 1 + ((a0 ++ (⟨#[64]⟩ : ByteArray)) ++ a1).size ≤ 9223372036854775807 then (if ((⟨#[60]⟩ : ByteArray) ++ ((a0 ++ (⟨#[64]⟩ : ByteArray)) ++ a1)).size + 1 ≤ 9223372036854775807 then ((addr_Path.f kj10 (((⟨#[60]⟩ : ByteArray) ++ ((a0 ++ (⟨#[64]⟩ : ByteArray)) ++ a1)) ++ (⟨#[62]⟩ : ByteArray))).bind fun bt192 => ((estafettelaw01_answers.f kj10).bind fun t194 => (if t194 = true then (if bt187.2 = true then (if bt187.1.toList = t182.toList then (if bt189.2.2 = true then (if bt189.1.toList = a0.toList then ((Hand.ref_Lower.f a1).bind fun t195 => (if bt189.2.1.toList = t195.toList then (if bt192.2 = true then (some (bt192.1.toList == t182.toList)) else (some false)) else (some false))) else (some false)) else (some false)) else (some false)) else (some false)) else (some false)))) else (none)) else (none)))) = some r := by rw [if_pos rfl] at H; exact H
                    clear H
                    have H := H1
                    clear H1
                    replace H := Option.bind_eq_some_iff.mp H
                    obtain ⟨⟨t187, t188⟩, A210, H⟩ := H
                    replace H : ((addr_Split.f t182).bind fun bt189 => (if 1 + ((a0 ++ (⟨#[64]⟩ : ByteArray)) ++ a1).size ≤ 9223372036854775807 then (if ((⟨#[60]⟩ : ByteArray) ++ ((a0 ++ (⟨#[64]⟩ : ByteArray)) ++ a1)).size + 1 ≤ 9223372036854775807 then ((addr_Path.f kj10 (((⟨#[60]⟩ : ByteArray) ++ ((a0 ++ (⟨#[64]⟩ : ByteArray)) ++ a1)) ++ (⟨#[62]⟩ : ByteArray))).bind fun bt192 => ((estafettelaw01_answers.f kj10).bind fun t194 => (if t194 = true then (if t188 = true then (if t187.toList = t182.toList then (if bt189.2.2 = true then (if bt189.1.toList = a0.toList then ((Hand.ref_Lower.f a1).bind fun t195 => (if bt189.2.1.toList = t195.toList then (if bt192.2 = true then (some (bt192.1.toList == t182.toList)) else (some false)) else (some false))) else (some false)) else (some false)) else (some false)) else (some false)) else (some false)))) else (none)) else (none))) = some r := H
                    have A21 := Aside0.mk A210
                    clear A210
                    replace H := Option.bind_eq_some_iff.mp H
                    obtain ⟨⟨t189, t190, t191⟩, A220, H⟩ := H
                    replace H : (if 1 + ((a0 ++ (⟨#[64]⟩ : ByteArray)) ++ a1).size ≤ 9223372036854775807 then (if ((⟨#[60]⟩ : ByteArray) ++ ((a0 ++ (⟨#[64]⟩ : ByteArray)) ++ a1)).size + 1 ≤ 9223372036854775807 then ((addr_Path.f kj10 (((⟨#[60]⟩ : ByteArray) ++ ((a0 ++ (⟨#[64]⟩ : ByteArray)) ++ a1)) ++ (⟨#[62]⟩ : ByteArray))).bind fun bt192 => ((estafettelaw01_answers.f kj10).bind fun t194 => (if t194 = true then (if t188 = true then (if t187.toList = t182.toList then (if t191 = true then (if t189.toList = a0.toList then ((Hand.ref_Lower.f a1).bind fun t195 => (if t190.toList = t195.toList then (if bt192.2 = true then (some (bt192.1.toList == t182.toList)) else (some false)) else (some false))) else (some false)) else (some false)) else (some false)) else (some false)) else (some false)))) else (none)) else (none)) = some r := H
                    have A22 := Aside0.mk A220
                    clear A220
                    by_cases c23 : 1 + ((a0 ++ (⟨#[64]⟩ : ByteArray)) ++ a1).size ≤ 9223372036854775807
                    · rw [if_pos c23] at H
                      have c23b0 := eq_true c23
                      have c23b1 : decide (1 + ((a0 ++ (⟨#[64]⟩ : ByteArray)) ++ a1).size ≤ 9223372036854775807) = true := decide_eq_true c23
                      try have c23b2 : (9223372036854775807 < 1 + ((a0 ++ (⟨#[64]⟩ : ByteArray)) ++ a1).size) = False := eq_false (Nat.not_lt.2 c23)
                      have c23z0 : (⟨#[64]⟩ : ByteArray).size = 1 := rfl
                      (try (have c23p := c23; simp only [ByteArray.size_append, List.length_append, c23z0] at c23p))
                      by_cases c24 : ((⟨#[60]⟩ : ByteArray) ++ ((a0 ++ (⟨#[64]⟩ : ByteArray)) ++ a1)).size + 1 ≤ 9223372036854775807
                      · rw [if_pos c24] at H
                        have c24b0 := eq_true c24
                        have c24b1 : decide (((⟨#[60]⟩ : ByteArray) ++ ((a0 ++ (⟨#[64]⟩ : ByteArray)) ++ a1)).size + 1 ≤ 9223372036854775807) = true := decide_eq_true c24
                        try have c24b2 : (9223372036854775807 < ((⟨#[60]⟩ : ByteArray) ++ ((a0 ++ (⟨#[64]⟩ : ByteArray)) ++ a1)).size + 1) = False := eq_false (Nat.not_lt.2 c24)
                        have c24z0 : (⟨#[60]⟩ : ByteArray).size = 1 := rfl
                        have c24z1 : (⟨#[64]⟩ : ByteArray).size = 1 := rfl
                        (try (have c24p := c24; simp only [ByteArray.size_append, List.length_append, c24z0, c24z1] at c24p))
                        replace H := Option.bind_eq_some_iff.mp H
                        obtain ⟨⟨t192, t193⟩, A250, H⟩ := H
                        replace H : ((estafettelaw01_answers.f kj10).bind fun t194 => (if t194 = true then (if t188 = true then (if t187.toList = t182.toList then (if t191 = true then (if t189.toList = a0.toList then ((Hand.ref_Lower.f a1).bind fun t195 => (if t190.toList = t195.toList then (if t193 = true then (some (t192.toList == t182.toList)) else (some false)) else (some false))) else (some false)) else (some false)) else (some false)) else (some false)) else (some false))) = some r := H
                        have A25 := Aside0.mk A250
                        clear A250
                        replace H := Option.bind_eq_some_iff.mp H
                        obtain ⟨t194, A260, H⟩ := H
                        replace H : (if t194 = true then (if t188 = true then (if t187.toList = t182.toList then (if t191 = true then (if t189.toList = a0.toList then ((Hand.ref_Lower.f a1).bind fun t195 => (if t190.toList = t195.toList then (if t193 = true then (some (t192.toList == t182.toList)) else (some false)) else (some false))) else (some false)) else (some false)) else (some false)) else (some false)) else (some false)) = some r := H
                        have A26 := Aside0.mk A260
                        clear A260
                        by_cases c27 : t194 = true
                        · subst c27
                          have H1 : (if t188 = true then (if t187.toList = t182.toList then (if t191 = true then (if t189.toList = a0.toList then ((Hand.ref_Lower.f a1).bind fun t195 => (if t190.toList = t195.toList then (if t193 = true then (some (t192.toList == t182.toList)) else (some false)) else (some false))) else (some false)) else (some false)) else (some false)) else (some false)) = some r := by rw [if_pos rfl] at H; exact H
                          clear H
                          have H := H1
                          clear H1
                          by_cases c28 : t188 = true
                          · subst c28
                            have H1 : (if t187.toList = t182.toList then (if t191 = true then (if t189.toList = a0.toList then ((Hand.ref_Lower.f a1).bind fun t195 => (if t190.toList = t195.toList then (if t193 = true then (some (t192.toList == t182.toList)) else (some false)) else (some false))) else (some false)) else (some false)) else (some false)) = some r := by rw [if_pos rfl] at H; exact H
                            clear H
                            have H := H1
                            clear H1
                            by_cases c29 : t187.toList = t182.toList
                            · rw [if_pos c29] at H
                              have c29b0 : (t187.toList == t182.toList) = true := beq_iff_eq.mpr c29
                              have c29b1 : (t187.toList != t182.toList) = false := bne_eq_false_iff_eq.mpr c29
                              clear c29
                              by_cases c30 : t191 = true
                              · subst c30
                                have H1 : (if t189.toList = a0.toList then ((Hand.ref_Lower.f a1).bind fun t195 => (if t190.toList = t195.toList then (if t193 = true then (some (t192.toList == t182.toList)) else (some false)) else (some false))) else (some false)) = some r := by rw [if_pos rfl] at H; exact H
                                clear H
                                have H := H1
                                clear H1
                                by_cases c31 : t189.toList = a0.toList
                                · rw [if_pos c31] at H
                                  have c31b0 : (t189.toList == a0.toList) = true := beq_iff_eq.mpr c31
                                  have c31b1 : (t189.toList != a0.toList) = false := bne_eq_false_iff_eq.mpr c31
                                  clear c31
                                  replace H := Option.bind_eq_some_iff.mp H
                                  obtain ⟨t195, A320, H⟩ := H
                                  replace H : (if t190.toList = t195.toList then (if t193 = true then (some (t192.toList == t182.toList)) else (some false)) else (some false)) = some r := H
                                  have A32 := Aside0.mk A320
                                  clear A320
                                  by_cases c33 : t190.toList = t195.toList
                                  · rw [if_pos c33] at H
                                    have c33b0 : (t190.toList == t195.toList) = true := beq_iff_eq.mpr c33
                                    have c33b1 : (t190.toList != t195.toList) = false := bne_eq_false_iff_eq.mpr c33
                                    clear c33
                                    by_cases c34 : t193 = true
                                    · subst c34
                                      have H1 : (some (t192.toList == t182.toList)) = some r := by rw [if_pos rfl] at H; exact H
                                      clear H
                                      have H := H1
                                      clear H1
                                      obtain rfl := Option.some.inj H
                                      go_wp2_with (first | ((with_reducible refine gate_callee (f := 11) rfl ?_); refine goesL_ (some 50) rfl rfl Tryd.func11 (by kernel_rfl) rfl #[.string t182] rfl (by (try simp only [List.map_toArray, List.map_cons, List.map_nil]); first | done | rfl | (simp only [List.length_drop, List.length_take]; rfl)) ?_; (with_reducible refine (addr_Canon.calls t182 t187 true _ A21.out).mono ?_); rintro e w35 ⟨rfl, hb⟩; refine ⟨_, rfl, ?_⟩; have n0_ := Aside0.mk (below_step (by repeat (first | (with_reducible first | exact HB.out | apply below_alloc | apply pw_below_drewN | apply below_drew1) | exact HB.out)) hb); clear HB; have HB := n0_; clear n0_; (try clear hb); (try clear hb2); (try clear hk); (try clear hi)) | ((with_reducible refine gate_callee (f := 9) rfl ?_); refine goesL_ (some 55) rfl rfl Tryd.func9 (by kernel_rfl) rfl #[.string t182] rfl (by (try simp only [List.map_toArray, List.map_cons, List.map_nil]); first | done | rfl | (simp only [List.length_drop, List.length_take]; rfl)) ?_; (with_reducible refine (addr_Split.calls t182 t189 t190 true _ A22.out).mono ?_); rintro e w36 ⟨rfl, hb⟩; refine ⟨_, rfl, ?_⟩; have n0_ := Aside0.mk (below_step (by repeat (first | (with_reducible first | exact HB.out | apply below_alloc | apply pw_below_drewN | apply below_drew1) | exact HB.out)) hb); clear HB; have HB := n0_; clear n0_; (try clear hb); (try clear hb2); (try clear hk); (try clear hi)) | ((with_reducible refine gate_callee (f := 17) rfl ?_); refine goesL_ (some 63) rfl rfl Tryd.func17 (by kernel_rfl) rfl #[.string (((⟨#[60]⟩ : ByteArray) ++ ((a0 ++ (⟨#[64]⟩ : ByteArray)) ++ a1)) ++ (⟨#[62]⟩ : ByteArray))] rfl (by (try simp only [List.map_toArray, List.map_cons, List.map_nil]); first | done | rfl | (simp only [List.length_drop, List.length_take]; rfl)) ?_; (with_reducible refine (addr_Path.calls kj10 (((⟨#[60]⟩ : ByteArray) ++ ((a0 ++ (⟨#[64]⟩ : ByteArray)) ++ a1)) ++ (⟨#[62]⟩ : ByteArray)) t192 true _ A25.out).mono ?_); rintro e w37 ⟨rfl, hb⟩; refine ⟨_, rfl, ?_⟩; have n0_ := Aside0.mk (below_step (by repeat (first | (with_reducible first | exact HB.out | apply below_alloc | apply pw_below_drewN | apply below_drew1) | exact HB.out)) hb); clear HB; have HB := n0_; clear n0_; (try clear hb); (try clear hb2); (try clear hk); (try clear hi)) | ((with_reducible refine gate_callee (f := 8) rfl ?_); refine goesL_ (some 66) rfl rfl Tryd.func8 (by kernel_rfl) rfl #[] rfl (by (try simp only [List.map_toArray, List.map_cons, List.map_nil]); first | done | rfl | (simp only [List.length_drop, List.length_take]; rfl)) ?_; (with_reducible refine (estafettelaw01_answers.calls kj10  true _ A26.out).mono ?_); rintro e w38 ⟨rfl, hb⟩; refine ⟨_, rfl, ?_⟩; have n0_ := Aside0.mk (below_step (by repeat (first | (with_reducible first | exact HB.out | apply below_alloc | apply pw_below_drewN | apply below_drew1) | exact HB.out)) hb); clear HB; have HB := n0_; clear n0_; (try clear hb); (try clear hb2); (try clear hk); (try clear hi)) | (go_at_call 19; (with_reducible refine (Hand.ref_Lower.calls a1 t195 _ A32.out).mono ?_); rintro e w39 ⟨rfl, hb⟩; have n0_ := Aside0.mk (below_step (by repeat (first | (with_reducible first | exact HB.out | apply below_alloc | apply pw_below_drewN | apply below_drew1) | exact HB.out)) hb); clear HB; have HB := n0_; clear n0_; (try clear hb); (try clear hb2); (try clear hk); (try clear hi)))
                                      go_ret
                                      exact ⟨by first | rfl | (simp [errW_none, errW_some] <;> rfl) | (simp [*, errW_none, errW_some] <;> rfl), by repeat (first | (with_reducible first | exact HB.out | apply below_alloc | apply pw_below_drewN | apply below_drew1) | exact HB.out)⟩
                                    · replace c34 := Bool.eq_false_iff.mpr c34
                                      subst c34
                                      have H1 : (some false) = some r := by rw [if_neg (show ¬ (false = true) by decide)] at H; exact H
                                      clear H
                                      have H := H1
                                      clear H1
                                      obtain rfl := Option.some.inj H
                                      go_wp2_with (first | ((with_reducible refine gate_callee (f := 11) rfl ?_); refine goesL_ (some 50) rfl rfl Tryd.func11 (by kernel_rfl) rfl #[.string t182] rfl (by (try simp only [List.map_toArray, List.map_cons, List.map_nil]); first | done | rfl | (simp only [List.length_drop, List.length_take]; rfl)) ?_; (with_reducible refine (addr_Canon.calls t182 t187 true _ A21.out).mono ?_); rintro e w40 ⟨rfl, hb⟩; refine ⟨_, rfl, ?_⟩; have n0_ := Aside0.mk (below_step (by repeat (first | (with_reducible first | exact HB.out | apply below_alloc | apply pw_below_drewN | apply below_drew1) | exact HB.out)) hb); clear HB; have HB := n0_; clear n0_; (try clear hb); (try clear hb2); (try clear hk); (try clear hi)) | ((with_reducible refine gate_callee (f := 9) rfl ?_); refine goesL_ (some 55) rfl rfl Tryd.func9 (by kernel_rfl) rfl #[.string t182] rfl (by (try simp only [List.map_toArray, List.map_cons, List.map_nil]); first | done | rfl | (simp only [List.length_drop, List.length_take]; rfl)) ?_; (with_reducible refine (addr_Split.calls t182 t189 t190 true _ A22.out).mono ?_); rintro e w41 ⟨rfl, hb⟩; refine ⟨_, rfl, ?_⟩; have n0_ := Aside0.mk (below_step (by repeat (first | (with_reducible first | exact HB.out | apply below_alloc | apply pw_below_drewN | apply below_drew1) | exact HB.out)) hb); clear HB; have HB := n0_; clear n0_; (try clear hb); (try clear hb2); (try clear hk); (try clear hi)) | ((with_reducible refine gate_callee (f := 17) rfl ?_); refine goesL_ (some 63) rfl rfl Tryd.func17 (by kernel_rfl) rfl #[.string (((⟨#[60]⟩ : ByteArray) ++ ((a0 ++ (⟨#[64]⟩ : ByteArray)) ++ a1)) ++ (⟨#[62]⟩ : ByteArray))] rfl (by (try simp only [List.map_toArray, List.map_cons, List.map_nil]); first | done | rfl | (simp only [List.length_drop, List.length_take]; rfl)) ?_; (with_reducible refine (addr_Path.calls kj10 (((⟨#[60]⟩ : ByteArray) ++ ((a0 ++ (⟨#[64]⟩ : ByteArray)) ++ a1)) ++ (⟨#[62]⟩ : ByteArray)) t192 false _ A25.out).mono ?_); rintro e w42 ⟨rfl, hb⟩; refine ⟨_, rfl, ?_⟩; have n0_ := Aside0.mk (below_step (by repeat (first | (with_reducible first | exact HB.out | apply below_alloc | apply pw_below_drewN | apply below_drew1) | exact HB.out)) hb); clear HB; have HB := n0_; clear n0_; (try clear hb); (try clear hb2); (try clear hk); (try clear hi)) | ((with_reducible refine gate_callee (f := 8) rfl ?_); refine goesL_ (some 66) rfl rfl Tryd.func8 (by kernel_rfl) rfl #[] rfl (by (try simp only [List.map_toArray, List.map_cons, List.map_nil]); first | done | rfl | (simp only [List.length_drop, List.length_take]; rfl)) ?_; (with_reducible refine (estafettelaw01_answers.calls kj10  true _ A26.out).mono ?_); rintro e w43 ⟨rfl, hb⟩; refine ⟨_, rfl, ?_⟩; have n0_ := Aside0.mk (below_step (by repeat (first | (with_reducible first | exact HB.out | apply below_alloc | apply pw_below_drewN | apply below_drew1) | exact HB.out)) hb); clear HB; have HB := n0_; clear n0_; (try clear hb); (try clear hb2); (try clear hk); (try clear hi)) | (go_at_call 19; (with_reducible refine (Hand.ref_Lower.calls a1 t195 _ A32.out).mono ?_); rintro e w44 ⟨rfl, hb⟩; have n0_ := Aside0.mk (below_step (by repeat (first | (with_reducible first | exact HB.out | apply below_alloc | apply pw_below_drewN | apply below_drew1) | exact HB.out)) hb); clear HB; have HB := n0_; clear n0_; (try clear hb); (try clear hb2); (try clear hk); (try clear hi)))
                                      go_ret
                                      exact ⟨by first | rfl | (simp [errW_none, errW_some] <;> rfl) | (simp [*, errW_none, errW_some] <;> rfl), by repeat (first | (with_reducible first | exact HB.out | apply below_alloc | apply pw_below_drewN | apply below_drew1) | exact HB.out)⟩
                                  · rw [if_neg c33] at H
                                    have c33b0 : (t190.toList == t195.toList) = false := beq_eq_false_iff_ne.mpr c33
                                    have c33b1 : (t190.toList != t195.toList) = true := bne_iff_ne.mpr c33
                                    obtain rfl := Option.some.inj H
                                    go_wp2_with (first | ((with_reducible refine gate_callee (f := 11) rfl ?_); refine goesL_ (some 50) rfl rfl Tryd.func11 (by kernel_rfl) rfl #[.string t182] rfl (by (try simp only [List.map_toArray, List.map_cons, List.map_nil]); first | done | rfl | (simp only [List.length_drop, List.length_take]; rfl)) ?_; (with_reducible refine (addr_Canon.calls t182 t187 true _ A21.out).mono ?_); rintro e w45 ⟨rfl, hb⟩; refine ⟨_, rfl, ?_⟩; have n0_ := Aside0.mk (below_step (by repeat (first | (with_reducible first | exact HB.out | apply below_alloc | apply pw_below_drewN | apply below_drew1) | exact HB.out)) hb); clear HB; have HB := n0_; clear n0_; (try clear hb); (try clear hb2); (try clear hk); (try clear hi)) | ((with_reducible refine gate_callee (f := 9) rfl ?_); refine goesL_ (some 55) rfl rfl Tryd.func9 (by kernel_rfl) rfl #[.string t182] rfl (by (try simp only [List.map_toArray, List.map_cons, List.map_nil]); first | done | rfl | (simp only [List.length_drop, List.length_take]; rfl)) ?_; (with_reducible refine (addr_Split.calls t182 t189 t190 true _ A22.out).mono ?_); rintro e w46 ⟨rfl, hb⟩; refine ⟨_, rfl, ?_⟩; have n0_ := Aside0.mk (below_step (by repeat (first | (with_reducible first | exact HB.out | apply below_alloc | apply pw_below_drewN | apply below_drew1) | exact HB.out)) hb); clear HB; have HB := n0_; clear n0_; (try clear hb); (try clear hb2); (try clear hk); (try clear hi)) | ((with_reducible refine gate_callee (f := 17) rfl ?_); refine goesL_ (some 63) rfl rfl Tryd.func17 (by kernel_rfl) rfl #[.string (((⟨#[60]⟩ : ByteArray) ++ ((a0 ++ (⟨#[64]⟩ : ByteArray)) ++ a1)) ++ (⟨#[62]⟩ : ByteArray))] rfl (by (try simp only [List.map_toArray, List.map_cons, List.map_nil]); first | done | rfl | (simp only [List.length_drop, List.length_take]; rfl)) ?_; (with_reducible refine (addr_Path.calls kj10 (((⟨#[60]⟩ : ByteArray) ++ ((a0 ++ (⟨#[64]⟩ : ByteArray)) ++ a1)) ++ (⟨#[62]⟩ : ByteArray)) t192 t193 _ A25.out).mono ?_); rintro e w47 ⟨rfl, hb⟩; refine ⟨_, rfl, ?_⟩; have n0_ := Aside0.mk (below_step (by repeat (first | (with_reducible first | exact HB.out | apply below_alloc | apply pw_below_drewN | apply below_drew1) | exact HB.out)) hb); clear HB; have HB := n0_; clear n0_; (try clear hb); (try clear hb2); (try clear hk); (try clear hi)) | ((with_reducible refine gate_callee (f := 8) rfl ?_); refine goesL_ (some 66) rfl rfl Tryd.func8 (by kernel_rfl) rfl #[] rfl (by (try simp only [List.map_toArray, List.map_cons, List.map_nil]); first | done | rfl | (simp only [List.length_drop, List.length_take]; rfl)) ?_; (with_reducible refine (estafettelaw01_answers.calls kj10  true _ A26.out).mono ?_); rintro e w48 ⟨rfl, hb⟩; refine ⟨_, rfl, ?_⟩; have n0_ := Aside0.mk (below_step (by repeat (first | (with_reducible first | exact HB.out | apply below_alloc | apply pw_below_drewN | apply below_drew1) | exact HB.out)) hb); clear HB; have HB := n0_; clear n0_; (try clear hb); (try clear hb2); (try clear hk); (try clear hi)) | (go_at_call 19; (with_reducible refine (Hand.ref_Lower.calls a1 t195 _ A32.out).mono ?_); rintro e w49 ⟨rfl, hb⟩; have n0_ := Aside0.mk (below_step (by repeat (first | (with_reducible first | exact HB.out | apply below_alloc | apply pw_below_drewN | apply below_drew1) | exact HB.out)) hb); clear HB; have HB := n0_; clear n0_; (try clear hb); (try clear hb2); (try clear hk); (try clear hi)))
                                    go_ret
                                    exact ⟨by first | rfl | (simp [errW_none, errW_some] <;> rfl) | (simp [*, errW_none, errW_some] <;> rfl), by repeat (first | (with_reducible first | exact HB.out | apply below_alloc | apply pw_below_drewN | apply below_drew1) | exact HB.out)⟩
                                · rw [if_neg c31] at H
                                  have c31b0 : (t189.toList == a0.toList) = false := beq_eq_false_iff_ne.mpr c31
                                  have c31b1 : (t189.toList != a0.toList) = true := bne_iff_ne.mpr c31
                                  obtain rfl := Option.some.inj H
                                  go_wp2_with (first | ((with_reducible refine gate_callee (f := 11) rfl ?_); refine goesL_ (some 50) rfl rfl Tryd.func11 (by kernel_rfl) rfl #[.string t182] rfl (by (try simp only [List.map_toArray, List.map_cons, List.map_nil]); first | done | rfl | (simp only [List.length_drop, List.length_take]; rfl)) ?_; (with_reducible refine (addr_Canon.calls t182 t187 true _ A21.out).mono ?_); rintro e w50 ⟨rfl, hb⟩; refine ⟨_, rfl, ?_⟩; have n0_ := Aside0.mk (below_step (by repeat (first | (with_reducible first | exact HB.out | apply below_alloc | apply pw_below_drewN | apply below_drew1) | exact HB.out)) hb); clear HB; have HB := n0_; clear n0_; (try clear hb); (try clear hb2); (try clear hk); (try clear hi)) | ((with_reducible refine gate_callee (f := 9) rfl ?_); refine goesL_ (some 55) rfl rfl Tryd.func9 (by kernel_rfl) rfl #[.string t182] rfl (by (try simp only [List.map_toArray, List.map_cons, List.map_nil]); first | done | rfl | (simp only [List.length_drop, List.length_take]; rfl)) ?_; (with_reducible refine (addr_Split.calls t182 t189 t190 true _ A22.out).mono ?_); rintro e w51 ⟨rfl, hb⟩; refine ⟨_, rfl, ?_⟩; have n0_ := Aside0.mk (below_step (by repeat (first | (with_reducible first | exact HB.out | apply below_alloc | apply pw_below_drewN | apply below_drew1) | exact HB.out)) hb); clear HB; have HB := n0_; clear n0_; (try clear hb); (try clear hb2); (try clear hk); (try clear hi)) | ((with_reducible refine gate_callee (f := 17) rfl ?_); refine goesL_ (some 63) rfl rfl Tryd.func17 (by kernel_rfl) rfl #[.string (((⟨#[60]⟩ : ByteArray) ++ ((a0 ++ (⟨#[64]⟩ : ByteArray)) ++ a1)) ++ (⟨#[62]⟩ : ByteArray))] rfl (by (try simp only [List.map_toArray, List.map_cons, List.map_nil]); first | done | rfl | (simp only [List.length_drop, List.length_take]; rfl)) ?_; (with_reducible refine (addr_Path.calls kj10 (((⟨#[60]⟩ : ByteArray) ++ ((a0 ++ (⟨#[64]⟩ : ByteArray)) ++ a1)) ++ (⟨#[62]⟩ : ByteArray)) t192 t193 _ A25.out).mono ?_); rintro e w52 ⟨rfl, hb⟩; refine ⟨_, rfl, ?_⟩; have n0_ := Aside0.mk (below_step (by repeat (first | (with_reducible first | exact HB.out | apply below_alloc | apply pw_below_drewN | apply below_drew1) | exact HB.out)) hb); clear HB; have HB := n0_; clear n0_; (try clear hb); (try clear hb2); (try clear hk); (try clear hi)) | ((with_reducible refine gate_callee (f := 8) rfl ?_); refine goesL_ (some 66) rfl rfl Tryd.func8 (by kernel_rfl) rfl #[] rfl (by (try simp only [List.map_toArray, List.map_cons, List.map_nil]); first | done | rfl | (simp only [List.length_drop, List.length_take]; rfl)) ?_; (with_reducible refine (estafettelaw01_answers.calls kj10  true _ A26.out).mono ?_); rintro e w53 ⟨rfl, hb⟩; refine ⟨_, rfl, ?_⟩; have n0_ := Aside0.mk (below_step (by repeat (first | (with_reducible first | exact HB.out | apply below_alloc | apply pw_below_drewN | apply below_drew1) | exact HB.out)) hb); clear HB; have HB := n0_; clear n0_; (try clear hb); (try clear hb2); (try clear hk); (try clear hi)))
                                  go_ret
                                  exact ⟨by first | rfl | (simp [errW_none, errW_some] <;> rfl) | (simp [*, errW_none, errW_some] <;> rfl), by repeat (first | (with_reducible first | exact HB.out | apply below_alloc | apply pw_below_drewN | apply below_drew1) | exact HB.out)⟩
                              · replace c30 := Bool.eq_false_iff.mpr c30
                                subst c30
                                have H1 : (some false) = some r := by rw [if_neg (show ¬ (false = true) by decide)] at H; exact H
                                clear H
                                have H := H1
                                clear H1
                                obtain rfl := Option.some.inj H
                                go_wp2_with (first | ((with_reducible refine gate_callee (f := 11) rfl ?_); refine goesL_ (some 50) rfl rfl Tryd.func11 (by kernel_rfl) rfl #[.string t182] rfl (by (try simp only [List.map_toArray, List.map_cons, List.map_nil]); first | done | rfl | (simp only [List.length_drop, List.length_take]; rfl)) ?_; (with_reducible refine (addr_Canon.calls t182 t187 true _ A21.out).mono ?_); rintro e w54 ⟨rfl, hb⟩; refine ⟨_, rfl, ?_⟩; have n0_ := Aside0.mk (below_step (by repeat (first | (with_reducible first | exact HB.out | apply below_alloc | apply pw_below_drewN | apply below_drew1) | exact HB.out)) hb); clear HB; have HB := n0_; clear n0_; (try clear hb); (try clear hb2); (try clear hk); (try clear hi)) | ((with_reducible refine gate_callee (f := 9) rfl ?_); refine goesL_ (some 55) rfl rfl Tryd.func9 (by kernel_rfl) rfl #[.string t182] rfl (by (try simp only [List.map_toArray, List.map_cons, List.map_nil]); first | done | rfl | (simp only [List.length_drop, List.length_take]; rfl)) ?_; (with_reducible refine (addr_Split.calls t182 t189 t190 false _ A22.out).mono ?_); rintro e w55 ⟨rfl, hb⟩; refine ⟨_, rfl, ?_⟩; have n0_ := Aside0.mk (below_step (by repeat (first | (with_reducible first | exact HB.out | apply below_alloc | apply pw_below_drewN | apply below_drew1) | exact HB.out)) hb); clear HB; have HB := n0_; clear n0_; (try clear hb); (try clear hb2); (try clear hk); (try clear hi)) | ((with_reducible refine gate_callee (f := 17) rfl ?_); refine goesL_ (some 63) rfl rfl Tryd.func17 (by kernel_rfl) rfl #[.string (((⟨#[60]⟩ : ByteArray) ++ ((a0 ++ (⟨#[64]⟩ : ByteArray)) ++ a1)) ++ (⟨#[62]⟩ : ByteArray))] rfl (by (try simp only [List.map_toArray, List.map_cons, List.map_nil]); first | done | rfl | (simp only [List.length_drop, List.length_take]; rfl)) ?_; (with_reducible refine (addr_Path.calls kj10 (((⟨#[60]⟩ : ByteArray) ++ ((a0 ++ (⟨#[64]⟩ : ByteArray)) ++ a1)) ++ (⟨#[62]⟩ : ByteArray)) t192 t193 _ A25.out).mono ?_); rintro e w56 ⟨rfl, hb⟩; refine ⟨_, rfl, ?_⟩; have n0_ := Aside0.mk (below_step (by repeat (first | (with_reducible first | exact HB.out | apply below_alloc | apply pw_below_drewN | apply below_drew1) | exact HB.out)) hb); clear HB; have HB := n0_; clear n0_; (try clear hb); (try clear hb2); (try clear hk); (try clear hi)) | ((with_reducible refine gate_callee (f := 8) rfl ?_); refine goesL_ (some 66) rfl rfl Tryd.func8 (by kernel_rfl) rfl #[] rfl (by (try simp only [List.map_toArray, List.map_cons, List.map_nil]); first | done | rfl | (simp only [List.length_drop, List.length_take]; rfl)) ?_; (with_reducible refine (estafettelaw01_answers.calls kj10  true _ A26.out).mono ?_); rintro e w57 ⟨rfl, hb⟩; refine ⟨_, rfl, ?_⟩; have n0_ := Aside0.mk (below_step (by repeat (first | (with_reducible first | exact HB.out | apply below_alloc | apply pw_below_drewN | apply below_drew1) | exact HB.out)) hb); clear HB; have HB := n0_; clear n0_; (try clear hb); (try clear hb2); (try clear hk); (try clear hi)))
                                go_ret
                                exact ⟨by first | rfl | (simp [errW_none, errW_some] <;> rfl) | (simp [*, errW_none, errW_some] <;> rfl), by repeat (first | (with_reducible first | exact HB.out | apply below_alloc | apply pw_below_drewN | apply below_drew1) | exact HB.out)⟩
                            · rw [if_neg c29] at H
                              have c29b0 : (t187.toList == t182.toList) = false := beq_eq_false_iff_ne.mpr c29
                              have c29b1 : (t187.toList != t182.toList) = true := bne_iff_ne.mpr c29
                              obtain rfl := Option.some.inj H
                              go_wp2_with (first | ((with_reducible refine gate_callee (f := 11) rfl ?_); refine goesL_ (some 50) rfl rfl Tryd.func11 (by kernel_rfl) rfl #[.string t182] rfl (by (try simp only [List.map_toArray, List.map_cons, List.map_nil]); first | done | rfl | (simp only [List.length_drop, List.length_take]; rfl)) ?_; (with_reducible refine (addr_Canon.calls t182 t187 true _ A21.out).mono ?_); rintro e w58 ⟨rfl, hb⟩; refine ⟨_, rfl, ?_⟩; have n0_ := Aside0.mk (below_step (by repeat (first | (with_reducible first | exact HB.out | apply below_alloc | apply pw_below_drewN | apply below_drew1) | exact HB.out)) hb); clear HB; have HB := n0_; clear n0_; (try clear hb); (try clear hb2); (try clear hk); (try clear hi)) | ((with_reducible refine gate_callee (f := 9) rfl ?_); refine goesL_ (some 55) rfl rfl Tryd.func9 (by kernel_rfl) rfl #[.string t182] rfl (by (try simp only [List.map_toArray, List.map_cons, List.map_nil]); first | done | rfl | (simp only [List.length_drop, List.length_take]; rfl)) ?_; (with_reducible refine (addr_Split.calls t182 t189 t190 t191 _ A22.out).mono ?_); rintro e w59 ⟨rfl, hb⟩; refine ⟨_, rfl, ?_⟩; have n0_ := Aside0.mk (below_step (by repeat (first | (with_reducible first | exact HB.out | apply below_alloc | apply pw_below_drewN | apply below_drew1) | exact HB.out)) hb); clear HB; have HB := n0_; clear n0_; (try clear hb); (try clear hb2); (try clear hk); (try clear hi)) | ((with_reducible refine gate_callee (f := 17) rfl ?_); refine goesL_ (some 63) rfl rfl Tryd.func17 (by kernel_rfl) rfl #[.string (((⟨#[60]⟩ : ByteArray) ++ ((a0 ++ (⟨#[64]⟩ : ByteArray)) ++ a1)) ++ (⟨#[62]⟩ : ByteArray))] rfl (by (try simp only [List.map_toArray, List.map_cons, List.map_nil]); first | done | rfl | (simp only [List.length_drop, List.length_take]; rfl)) ?_; (with_reducible refine (addr_Path.calls kj10 (((⟨#[60]⟩ : ByteArray) ++ ((a0 ++ (⟨#[64]⟩ : ByteArray)) ++ a1)) ++ (⟨#[62]⟩ : ByteArray)) t192 t193 _ A25.out).mono ?_); rintro e w60 ⟨rfl, hb⟩; refine ⟨_, rfl, ?_⟩; have n0_ := Aside0.mk (below_step (by repeat (first | (with_reducible first | exact HB.out | apply below_alloc | apply pw_below_drewN | apply below_drew1) | exact HB.out)) hb); clear HB; have HB := n0_; clear n0_; (try clear hb); (try clear hb2); (try clear hk); (try clear hi)) | ((with_reducible refine gate_callee (f := 8) rfl ?_); refine goesL_ (some 66) rfl rfl Tryd.func8 (by kernel_rfl) rfl #[] rfl (by (try simp only [List.map_toArray, List.map_cons, List.map_nil]); first | done | rfl | (simp only [List.length_drop, List.length_take]; rfl)) ?_; (with_reducible refine (estafettelaw01_answers.calls kj10  true _ A26.out).mono ?_); rintro e w61 ⟨rfl, hb⟩; refine ⟨_, rfl, ?_⟩; have n0_ := Aside0.mk (below_step (by repeat (first | (with_reducible first | exact HB.out | apply below_alloc | apply pw_below_drewN | apply below_drew1) | exact HB.out)) hb); clear HB; have HB := n0_; clear n0_; (try clear hb); (try clear hb2); (try clear hk); (try clear hi)))
                              go_ret
                              exact ⟨by first | rfl | (simp [errW_none, errW_some] <;> rfl) | (simp [*, errW_none, errW_some] <;> rfl), by repeat (first | (with_reducible first | exact HB.out | apply below_alloc | apply pw_below_drewN | apply below_drew1) | exact HB.out)⟩
                          · replace c28 := Bool.eq_false_iff.mpr c28
                            subst c28
                            have H1 : (some false) = some r := by rw [if_neg (show ¬ (false = true) by decide)] at H; exact H
                            clear H
                            have H := H1
                            clear H1
                            obtain rfl := Option.some.inj H
                            go_wp2_with (first | ((with_reducible refine gate_callee (f := 11) rfl ?_); refine goesL_ (some 50) rfl rfl Tryd.func11 (by kernel_rfl) rfl #[.string t182] rfl (by (try simp only [List.map_toArray, List.map_cons, List.map_nil]); first | done | rfl | (simp only [List.length_drop, List.length_take]; rfl)) ?_; (with_reducible refine (addr_Canon.calls t182 t187 false _ A21.out).mono ?_); rintro e w62 ⟨rfl, hb⟩; refine ⟨_, rfl, ?_⟩; have n0_ := Aside0.mk (below_step (by repeat (first | (with_reducible first | exact HB.out | apply below_alloc | apply pw_below_drewN | apply below_drew1) | exact HB.out)) hb); clear HB; have HB := n0_; clear n0_; (try clear hb); (try clear hb2); (try clear hk); (try clear hi)) | ((with_reducible refine gate_callee (f := 9) rfl ?_); refine goesL_ (some 55) rfl rfl Tryd.func9 (by kernel_rfl) rfl #[.string t182] rfl (by (try simp only [List.map_toArray, List.map_cons, List.map_nil]); first | done | rfl | (simp only [List.length_drop, List.length_take]; rfl)) ?_; (with_reducible refine (addr_Split.calls t182 t189 t190 t191 _ A22.out).mono ?_); rintro e w63 ⟨rfl, hb⟩; refine ⟨_, rfl, ?_⟩; have n0_ := Aside0.mk (below_step (by repeat (first | (with_reducible first | exact HB.out | apply below_alloc | apply pw_below_drewN | apply below_drew1) | exact HB.out)) hb); clear HB; have HB := n0_; clear n0_; (try clear hb); (try clear hb2); (try clear hk); (try clear hi)) | ((with_reducible refine gate_callee (f := 17) rfl ?_); refine goesL_ (some 63) rfl rfl Tryd.func17 (by kernel_rfl) rfl #[.string (((⟨#[60]⟩ : ByteArray) ++ ((a0 ++ (⟨#[64]⟩ : ByteArray)) ++ a1)) ++ (⟨#[62]⟩ : ByteArray))] rfl (by (try simp only [List.map_toArray, List.map_cons, List.map_nil]); first | done | rfl | (simp only [List.length_drop, List.length_take]; rfl)) ?_; (with_reducible refine (addr_Path.calls kj10 (((⟨#[60]⟩ : ByteArray) ++ ((a0 ++ (⟨#[64]⟩ : ByteArray)) ++ a1)) ++ (⟨#[62]⟩ : ByteArray)) t192 t193 _ A25.out).mono ?_); rintro e w64 ⟨rfl, hb⟩; refine ⟨_, rfl, ?_⟩; have n0_ := Aside0.mk (below_step (by repeat (first | (with_reducible first | exact HB.out | apply below_alloc | apply pw_below_drewN | apply below_drew1) | exact HB.out)) hb); clear HB; have HB := n0_; clear n0_; (try clear hb); (try clear hb2); (try clear hk); (try clear hi)) | ((with_reducible refine gate_callee (f := 8) rfl ?_); refine goesL_ (some 66) rfl rfl Tryd.func8 (by kernel_rfl) rfl #[] rfl (by (try simp only [List.map_toArray, List.map_cons, List.map_nil]); first | done | rfl | (simp only [List.length_drop, List.length_take]; rfl)) ?_; (with_reducible refine (estafettelaw01_answers.calls kj10  true _ A26.out).mono ?_); rintro e w65 ⟨rfl, hb⟩; refine ⟨_, rfl, ?_⟩; have n0_ := Aside0.mk (below_step (by repeat (first | (with_reducible first | exact HB.out | apply below_alloc | apply pw_below_drewN | apply below_drew1) | exact HB.out)) hb); clear HB; have HB := n0_; clear n0_; (try clear hb); (try clear hb2); (try clear hk); (try clear hi)))
                            go_ret
                            exact ⟨by first | rfl | (simp [errW_none, errW_some] <;> rfl) | (simp [*, errW_none, errW_some] <;> rfl), by repeat (first | (with_reducible first | exact HB.out | apply below_alloc | apply pw_below_drewN | apply below_drew1) | exact HB.out)⟩
                        · replace c27 := Bool.eq_false_iff.mpr c27
                          subst c27
                          have H1 : (some false) = some r := by rw [if_neg (show ¬ (false = true) by decide)] at H; exact H
                          clear H
                          have H := H1
                          clear H1
                          obtain rfl := Option.some.inj H
                          go_wp2_with (first | ((with_reducible refine gate_callee (f := 11) rfl ?_); refine goesL_ (some 50) rfl rfl Tryd.func11 (by kernel_rfl) rfl #[.string t182] rfl (by (try simp only [List.map_toArray, List.map_cons, List.map_nil]); first | done | rfl | (simp only [List.length_drop, List.length_take]; rfl)) ?_; (with_reducible refine (addr_Canon.calls t182 t187 t188 _ A21.out).mono ?_); rintro e w66 ⟨rfl, hb⟩; refine ⟨_, rfl, ?_⟩; have n0_ := Aside0.mk (below_step (by repeat (first | (with_reducible first | exact HB.out | apply below_alloc | apply pw_below_drewN | apply below_drew1) | exact HB.out)) hb); clear HB; have HB := n0_; clear n0_; (try clear hb); (try clear hb2); (try clear hk); (try clear hi)) | ((with_reducible refine gate_callee (f := 9) rfl ?_); refine goesL_ (some 55) rfl rfl Tryd.func9 (by kernel_rfl) rfl #[.string t182] rfl (by (try simp only [List.map_toArray, List.map_cons, List.map_nil]); first | done | rfl | (simp only [List.length_drop, List.length_take]; rfl)) ?_; (with_reducible refine (addr_Split.calls t182 t189 t190 t191 _ A22.out).mono ?_); rintro e w67 ⟨rfl, hb⟩; refine ⟨_, rfl, ?_⟩; have n0_ := Aside0.mk (below_step (by repeat (first | (with_reducible first | exact HB.out | apply below_alloc | apply pw_below_drewN | apply below_drew1) | exact HB.out)) hb); clear HB; have HB := n0_; clear n0_; (try clear hb); (try clear hb2); (try clear hk); (try clear hi)) | ((with_reducible refine gate_callee (f := 17) rfl ?_); refine goesL_ (some 63) rfl rfl Tryd.func17 (by kernel_rfl) rfl #[.string (((⟨#[60]⟩ : ByteArray) ++ ((a0 ++ (⟨#[64]⟩ : ByteArray)) ++ a1)) ++ (⟨#[62]⟩ : ByteArray))] rfl (by (try simp only [List.map_toArray, List.map_cons, List.map_nil]); first | done | rfl | (simp only [List.length_drop, List.length_take]; rfl)) ?_; (with_reducible refine (addr_Path.calls kj10 (((⟨#[60]⟩ : ByteArray) ++ ((a0 ++ (⟨#[64]⟩ : ByteArray)) ++ a1)) ++ (⟨#[62]⟩ : ByteArray)) t192 t193 _ A25.out).mono ?_); rintro e w68 ⟨rfl, hb⟩; refine ⟨_, rfl, ?_⟩; have n0_ := Aside0.mk (below_step (by repeat (first | (with_reducible first | exact HB.out | apply below_alloc | apply pw_below_drewN | apply below_drew1) | exact HB.out)) hb); clear HB; have HB := n0_; clear n0_; (try clear hb); (try clear hb2); (try clear hk); (try clear hi)) | ((with_reducible refine gate_callee (f := 8) rfl ?_); refine goesL_ (some 66) rfl rfl Tryd.func8 (by kernel_rfl) rfl #[] rfl (by (try simp only [List.map_toArray, List.map_cons, List.map_nil]); first | done | rfl | (simp only [List.length_drop, List.length_take]; rfl)) ?_; (with_reducible refine (estafettelaw01_answers.calls kj10  false _ A26.out).mono ?_); rintro e w69 ⟨rfl, hb⟩; refine ⟨_, rfl, ?_⟩; have n0_ := Aside0.mk (below_step (by repeat (first | (with_reducible first | exact HB.out | apply below_alloc | apply pw_below_drewN | apply below_drew1) | exact HB.out)) hb); clear HB; have HB := n0_; clear n0_; (try clear hb); (try clear hb2); (try clear hk); (try clear hi)))
                          go_ret
                          exact ⟨by first | rfl | (simp [errW_none, errW_some] <;> rfl) | (simp [*, errW_none, errW_some] <;> rfl), by repeat (first | (with_reducible first | exact HB.out | apply below_alloc | apply pw_below_drewN | apply below_drew1) | exact HB.out)⟩
                      · rw [if_neg c24] at H
                        exact absurd H (by simp)
                    · rw [if_neg c23] at H
                      exact absurd H (by simp)
                  · replace c20 := Bool.eq_false_iff.mpr c20
                    subst c20
                    have H1 : ((estafettelaw01_answers.f kj10).bind fun t186 => (if t186 = true then (some (t182.toList == ([] : List UInt8))) else (some false))) = some r := by rw [if_neg (show ¬ (false = true) by decide)] at H; exact H
                    clear H
                    have H := H1
                    clear H1
                    replace H := Option.bind_eq_some_iff.mp H
                    obtain ⟨t186, A700, H⟩ := H
                    replace H : (if t186 = true then (some (t182.toList == ([] : List UInt8))) else (some false)) = some r := H
                    have A70 := Aside0.mk A700
                    clear A700
                    by_cases c71 : t186 = true
                    · subst c71
                      have H1 : (some (t182.toList == ([] : List UInt8))) = some r := by rw [if_pos rfl] at H; exact H
                      clear H
                      have H := H1
                      clear H1
                      obtain rfl := Option.some.inj H
                      go_wp2_with (first | ((with_reducible refine gate_callee (f := 8) rfl ?_); refine goesL_ (some 43) rfl rfl Tryd.func8 (by kernel_rfl) rfl #[] rfl (by (try simp only [List.map_toArray, List.map_cons, List.map_nil]); first | done | rfl | (simp only [List.length_drop, List.length_take]; rfl)) ?_; (with_reducible refine (estafettelaw01_answers.calls kj10  true _ A70.out).mono ?_); rintro e w72 ⟨rfl, hb⟩; refine ⟨_, rfl, ?_⟩; have n0_ := Aside0.mk (below_step (by repeat (first | (with_reducible first | exact HB.out | apply below_alloc | apply pw_below_drewN | apply below_drew1) | exact HB.out)) hb); clear HB; have HB := n0_; clear n0_; (try clear hb); (try clear hb2); (try clear hk); (try clear hi)))
                      go_ret
                      exact ⟨by first | rfl | (simp [errW_none, errW_some] <;> rfl) | (simp [*, errW_none, errW_some] <;> rfl), by repeat (first | (with_reducible first | exact HB.out | apply below_alloc | apply pw_below_drewN | apply below_drew1) | exact HB.out)⟩
                    · replace c71 := Bool.eq_false_iff.mpr c71
                      subst c71
                      have H1 : (some false) = some r := by rw [if_neg (show ¬ (false = true) by decide)] at H; exact H
                      clear H
                      have H := H1
                      clear H1
                      obtain rfl := Option.some.inj H
                      go_wp2_with (first | ((with_reducible refine gate_callee (f := 8) rfl ?_); refine goesL_ (some 43) rfl rfl Tryd.func8 (by kernel_rfl) rfl #[] rfl (by (try simp only [List.map_toArray, List.map_cons, List.map_nil]); first | done | rfl | (simp only [List.length_drop, List.length_take]; rfl)) ?_; (with_reducible refine (estafettelaw01_answers.calls kj10  false _ A70.out).mono ?_); rintro e w73 ⟨rfl, hb⟩; refine ⟨_, rfl, ?_⟩; have n0_ := Aside0.mk (below_step (by repeat (first | (with_reducible first | exact HB.out | apply below_alloc | apply pw_below_drewN | apply below_drew1) | exact HB.out)) hb); clear HB; have HB := n0_; clear n0_; (try clear hb); (try clear hb2); (try clear hk); (try clear hi)))
                      go_ret
                      exact ⟨by first | rfl | (simp [errW_none, errW_some] <;> rfl) | (simp [*, errW_none, errW_some] <;> rfl), by repeat (first | (with_reducible first | exact HB.out | apply below_alloc | apply pw_below_drewN | apply below_drew1) | exact HB.out)⟩
          · rw [if_neg c9] at H
            exact absurd H (by simp)
        · rw [if_neg c8] at H
          exact absurd H (by simp)

/-- THE ONE PURE STATEMENT of estafettelaw01_AddrTwice: yours. -/
def estafettelaw01_AddrTwice.Pure : Prop := ∀ (a0 : ByteArray) (a1 : ByteArray), a0.size ≤ 140737488351232 → a1.size ≤ 140737488351232 → ∃ k, estafettelaw01_AddrTwice.f k a0 a1 = some true
theorem estafettelaw01_AddrTwice.walk (P : estafettelaw01_AddrTwice.Pure) (a0 : ByteArray) (a1 : ByteArray) (w : World) (w0 : a0.size ≤ 140737488351232) (w1 : a1.size ≤ 140737488351232) :
    Calls Tryd.prog 5 #[.string a0, .string a1] w fun e w' => e = .returned (.bool true) ∧ Below w.heap.size w w' := by
  obtain ⟨k, h⟩ := P a0 a1 w0 w1
  refine (estafettelaw01_AddrTwice.calls k a0 a1 true w h).mono ?_
  rintro e w' ⟨rfl, hd⟩
  exact ⟨rfl, hd⟩

end Go.Proofs.YtikfdngidbppbaaDoor.PB
