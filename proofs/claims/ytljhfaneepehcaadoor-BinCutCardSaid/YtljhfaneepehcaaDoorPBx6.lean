/- For every input: what the functions below return, or the statement that this text proves. Written by a program of this claim.s author (a turned print). -/
import Derived.Test.YtljhfaneepehcaaDoorPBx0
import Derived.Test.YtljhfaneepehcaaDoorPBx3
import Derived.Test.YtljhfaneepehcaaDoorPBx5
namespace Go.Proofs.YtljhfaneepehcaaDoor.PB
open Go.RowKit Go.Proofs.YtljhfaneepehcaaDoorW.PrintWords Go.Proofs.YtljhfaneepehcaaDoorW.PrintLast Go.Proofs.YtljhfaneepehcaaDoorW.PrintMore
attribute [local go_sem] max2_int min2_int max_two min_two max_three min_three max_four min_four   -- for this text's walks alone
set_option linter.unusedVariables false
set_option linter.unusedSimpArgs false

/-! ### estafetteref01_Good: function 18 -/
def estafetteref01_Good.l0 : Nat → List ByteArray → Int → Option (Bool)
  | 0, _, _ => none
  | k + 1, x0, x3 => if x3 < (x0.length : Int) then (if 0 ≤ x3 then (if ((rdOf ByteArray.empty x0 x3).size : Int) > 997 then (some false) else ((estafetteref01_in.f k (rdOf ByteArray.empty x0 x3) 0).bind fun t228 => (if t228 = true then (some false) else ((estafetteref01_in.f k (rdOf ByteArray.empty x0 x3) 10).bind fun t230 => (if t230 = true then (some false) else ((estafetteref01_in.f k (rdOf ByteArray.empty x0 x3) 13).bind fun t232 => (if t232 = true then (some false) else (estafetteref01_Good.l0 k x0 (wrap64 (x3 + 1)))))))))) else (none)) else ((estafetteref01_Size.f k x0).bind fun t225 => (some (decide (t225 ≤ 65536))))
def estafetteref01_Good.f (k : Nat) (l0 : List ByteArray) : Option (Bool) := estafetteref01_Good.l0 k l0 0
theorem estafetteref01_Good.mono_l : ∀ k, (∀ y0 y1, LeO (estafetteref01_Good.l0 k y0 y1) (estafetteref01_Good.l0 (k + 1) y0 y1))
  | 0 => fun _ _ r h => by simp [estafetteref01_Good.l0] at h
  | k + 1 => by
    have ih0 := estafetteref01_Good.mono_l k
    · intro y0 y1
      unfold estafetteref01_Good.l0
      repeat' first
      | (with_reducible exact ih0 _ _)
      | (with_reducible exact estafetteref01_Size.mono _ _)
      | (with_reducible exact estafetteref01_in.mono _ _ _)
      | (with_reducible exact LeO.refl _)
      | (with_reducible exact LeO.none _)
      | (with_reducible refine LeO.ite ?_ ?_)
      | (with_reducible refine LeO.bind ?_ (fun _ => ?_))
      | exact ih0 _ _
      | exact estafetteref01_Size.mono _ _
      | exact estafetteref01_in.mono _ _ _
      | exact LeO.none _
      | refine LeO.ite ?_ ?_
      | refine LeO.bind ?_ (fun _ => ?_)
theorem estafetteref01_Good.mono : ∀ a0 k, LeO (estafetteref01_Good.f k a0) (estafetteref01_Good.f (k + 1) a0) := by
  intro a0 k
  have ih0 := estafetteref01_Good.mono_l k
  unfold estafetteref01_Good.f
  repeat' first
      | (with_reducible exact ih0 _ _)
      | (with_reducible exact estafetteref01_Size.mono _ _)
      | (with_reducible exact estafetteref01_in.mono _ _ _)
      | (with_reducible exact LeO.refl _)
      | (with_reducible exact LeO.none _)
      | (with_reducible refine LeO.ite ?_ ?_)
      | (with_reducible refine LeO.bind ?_ (fun _ => ?_))
      | exact ih0 _ _
      | exact estafetteref01_Size.mono _ _
      | exact estafetteref01_in.mono _ _ _
      | exact LeO.none _
      | refine LeO.ite ?_ ?_
      | refine LeO.bind ?_ (fun _ => ?_)
set_option maxHeartbeats 8000000 in
set_option maxRecDepth 100000 in
theorem estafetteref01_Good.calls (k : Nat) (A0 : Option Addr) (c0 : Nat) (l0 : List ByteArray) (r : Bool) (w : World) (hr0 : Kd.C Kd.string w A0 l0.length l0) (hc0 : l0.length ≤ c0) (h : estafetteref01_Good.f k l0 = some r) :
    Calls Tryd.prog 18 #[.slice A0 l0.length c0] w fun e w' => e = .returned (.bool r) ∧ Drawn0 w w' := by
  have HR0 := Aside0.mk hr0
  have HC0 := Aside0.mk hc0
  clear hr0 hc0
  have H : (estafetteref01_Good.l0 k l0 0) = some r := h
  clear h
  have H' := Aside0.mk H
  clear H
  go_enter Tryd.func18, Tryd.ntmps18
  go_wp2
  go_loopg [3] k (fun kq v3 w' => ∃ (x3_1 : Int), v3 = .int .i64 x3_1 ∧ Aside0 (estafetteref01_Good.l0 kq l0 x3_1 = some r) ∧ Aside0 (kq ≤ k) ∧ Drawn0 w w')
  case atStart => exact ⟨(0), (by first | rfl | (simp; done) | (simp [*]; done)), H', ⟨Nat.le_refl _⟩, by repeat (first | exact Drawn0.refl _ | apply Drawn0.step)⟩
  case round =>
    clear H'
    try clear c1
    obtain ⟨x3_1, rfl, HA, HK1, ⟨m1, rfl⟩⟩ := hrel
    cases gk with
    | zero => exact absurd HA.out (by simp [estafetteref01_Good.l0])
    | succ k1 =>
      have H := HA.out
      clear HA
      simp only [estafetteref01_Good.l0] at H
      by_cases c2 : x3_1 < (l0.length : Int)
      · rw [if_pos c2] at H
        have c2b0 : decide (x3_1 < (l0.length : Int)) = true := decide_eq_true c2
        clear c2
        by_cases c3 : 0 ≤ x3_1
        · rw [if_pos c3] at H
          have c3b0 : decide (0 ≤ x3_1) = true := decide_eq_true c3
          clear c3
          by_cases c4 : ((rdOf ByteArray.empty l0 x3_1).size : Int) > 997
          · rw [if_pos c4] at H
            have c4b0 : decide (997 < ((rdOf ByteArray.empty l0 x3_1).size : Int)) = true := decide_eq_true c4
            have c4b1 : decide (997 < (rdOf ByteArray.empty l0 x3_1).size) = true := decide_eq_true (by omega)
            clear c4
            obtain rfl := Option.some.inj H
            have p226 : 0 ≤ (x3_1 : Int) := of_decide_eq_true (by first | (with_reducible assumption) | assumption)
            have q226 : x3_1 < (l0.length : Int) := of_decide_eq_true (by first | (with_reducible assumption) | assumption)
            obtain ⟨ad226, e226, hx226_0⟩ := Kd.at_string HR0.out x3_1 p226 q226
            cases e226
            replace p226 := eq_true p226
            replace q226 := eq_true q226
            go_wp2
            go_ret
            exact ⟨by first | rfl | (simp; done) | (simp [*]; done), by repeat (first | exact Drawn0.refl _ | apply Drawn0.step)⟩
          · rw [if_neg c4] at H
            have c4b0 : decide (997 < ((rdOf ByteArray.empty l0 x3_1).size : Int)) = false := decide_eq_false c4
            have c4b1 : decide (997 < (rdOf ByteArray.empty l0 x3_1).size) = false := decide_eq_false (by omega)
            clear c4
            replace H := Option.bind_eq_some_iff.mp H
            obtain ⟨t228, A50, H⟩ := H
            replace H : (if t228 = true then (some false) else ((estafetteref01_in.f k1 (rdOf ByteArray.empty l0 x3_1) 10).bind fun t230 => (if t230 = true then (some false) else ((estafetteref01_in.f k1 (rdOf ByteArray.empty l0 x3_1) 13).bind fun t232 => (if t232 = true then (some false) else (estafetteref01_Good.l0 k1 l0 (wrap64 (x3_1 + 1)))))))) = some r := H
            have A5 := Aside0.mk A50
            clear A50
            by_cases c6 : t228 = true
            · subst c6
              have H1 : (some false) = some r := by rw [if_pos rfl] at H; exact H
              clear H
              have H := H1
              clear H1
              obtain rfl := Option.some.inj H
              have p226 : 0 ≤ (x3_1 : Int) := of_decide_eq_true (by first | (with_reducible assumption) | assumption)
              have q226 : x3_1 < (l0.length : Int) := of_decide_eq_true (by first | (with_reducible assumption) | assumption)
              obtain ⟨ad226, e226, hx226_0⟩ := Kd.at_string HR0.out x3_1 p226 q226
              cases e226
              replace p226 := eq_true p226
              replace q226 := eq_true q226
              have p227 : 0 ≤ (x3_1 : Int) := of_decide_eq_true (by first | (with_reducible assumption) | assumption)
              have q227 : x3_1 < (l0.length : Int) := of_decide_eq_true (by first | (with_reducible assumption) | assumption)
              obtain ⟨ad227, e227, hx227_0⟩ := Kd.at_string HR0.out x3_1 p227 q227
              obtain rfl : ad226 = ad227 := (by injection e227)
              replace p227 := eq_true p227
              replace q227 := eq_true q227
              go_wp2_with (first | (go_at_call 37; (with_reducible refine (estafetteref01_in.calls k1 (rdOf ByteArray.empty l0 x3_1) 0 true _ A5.out).mono ?_); rintro e w' ⟨rfl, ⟨nd, rfl⟩⟩))
              go_ret
              exact ⟨by first | rfl | (simp; done) | (simp [*]; done), by repeat (first | exact Drawn0.refl _ | apply Drawn0.step)⟩
            · replace c6 := Bool.eq_false_iff.mpr c6
              subst c6
              have H1 : ((estafetteref01_in.f k1 (rdOf ByteArray.empty l0 x3_1) 10).bind fun t230 => (if t230 = true then (some false) else ((estafetteref01_in.f k1 (rdOf ByteArray.empty l0 x3_1) 13).bind fun t232 => (if t232 = true then (some false) else (estafetteref01_Good.l0 k1 l0 (wrap64 (x3_1 + 1))))))) = some r := by rw [if_neg (show ¬ (false = true) by decide)] at H; exact H
              clear H
              have H := H1
              clear H1
              replace H := Option.bind_eq_some_iff.mp H
              obtain ⟨t230, A70, H⟩ := H
              replace H : (if t230 = true then (some false) else ((estafetteref01_in.f k1 (rdOf ByteArray.empty l0 x3_1) 13).bind fun t232 => (if t232 = true then (some false) else (estafetteref01_Good.l0 k1 l0 (wrap64 (x3_1 + 1)))))) = some r := H
              have A7 := Aside0.mk A70
              clear A70
              by_cases c8 : t230 = true
              · subst c8
                have H1 : (some false) = some r := by rw [if_pos rfl] at H; exact H
                clear H
                have H := H1
                clear H1
                obtain rfl := Option.some.inj H
                have p226 : 0 ≤ (x3_1 : Int) := of_decide_eq_true (by first | (with_reducible assumption) | assumption)
                have q226 : x3_1 < (l0.length : Int) := of_decide_eq_true (by first | (with_reducible assumption) | assumption)
                obtain ⟨ad226, e226, hx226_0⟩ := Kd.at_string HR0.out x3_1 p226 q226
                cases e226
                replace p226 := eq_true p226
                replace q226 := eq_true q226
                have p227 : 0 ≤ (x3_1 : Int) := of_decide_eq_true (by first | (with_reducible assumption) | assumption)
                have q227 : x3_1 < (l0.length : Int) := of_decide_eq_true (by first | (with_reducible assumption) | assumption)
                obtain ⟨ad227, e227, hx227_0⟩ := Kd.at_string HR0.out x3_1 p227 q227
                obtain rfl : ad226 = ad227 := (by injection e227)
                replace p227 := eq_true p227
                replace q227 := eq_true q227
                go_wp2_with (first | (go_at_call 37; (with_reducible refine (estafetteref01_in.calls k1 (rdOf ByteArray.empty l0 x3_1) 0 false _ A5.out).mono ?_); rintro e w' ⟨rfl, ⟨nd, rfl⟩⟩; have p229 : 0 ≤ (x3_1 : Int) := of_decide_eq_true (by first | (with_reducible assumption) | assumption); have q229 : x3_1 < (l0.length : Int) := of_decide_eq_true (by first | (with_reducible assumption) | assumption); obtain ⟨ad229, e229, hx229_0⟩ := Kd.at_string HR0.out x3_1 p229 q229; obtain rfl : ad226 = ad229 := (by injection e229); replace p229 := eq_true p229; replace q229 := eq_true q229) | (go_at_call 37; (with_reducible refine (estafetteref01_in.calls k1 (rdOf ByteArray.empty l0 x3_1) 10 true _ A7.out).mono ?_); rintro e w' ⟨rfl, ⟨nd, rfl⟩⟩))
                go_ret
                exact ⟨by first | rfl | (simp; done) | (simp [*]; done), by repeat (first | exact Drawn0.refl _ | apply Drawn0.step)⟩
              · replace c8 := Bool.eq_false_iff.mpr c8
                subst c8
                have H1 : ((estafetteref01_in.f k1 (rdOf ByteArray.empty l0 x3_1) 13).bind fun t232 => (if t232 = true then (some false) else (estafetteref01_Good.l0 k1 l0 (wrap64 (x3_1 + 1))))) = some r := by rw [if_neg (show ¬ (false = true) by decide)] at H; exact H
                clear H
                have H := H1
                clear H1
                replace H := Option.bind_eq_some_iff.mp H
                obtain ⟨t232, A90, H⟩ := H
                replace H : (if t232 = true then (some false) else (estafetteref01_Good.l0 k1 l0 (wrap64 (x3_1 + 1)))) = some r := H
                have A9 := Aside0.mk A90
                clear A90
                by_cases c10 : t232 = true
                · subst c10
                  have H1 : (some false) = some r := by rw [if_pos rfl] at H; exact H
                  clear H
                  have H := H1
                  clear H1
                  obtain rfl := Option.some.inj H
                  have p226 : 0 ≤ (x3_1 : Int) := of_decide_eq_true (by first | (with_reducible assumption) | assumption)
                  have q226 : x3_1 < (l0.length : Int) := of_decide_eq_true (by first | (with_reducible assumption) | assumption)
                  obtain ⟨ad226, e226, hx226_0⟩ := Kd.at_string HR0.out x3_1 p226 q226
                  cases e226
                  replace p226 := eq_true p226
                  replace q226 := eq_true q226
                  have p227 : 0 ≤ (x3_1 : Int) := of_decide_eq_true (by first | (with_reducible assumption) | assumption)
                  have q227 : x3_1 < (l0.length : Int) := of_decide_eq_true (by first | (with_reducible assumption) | assumption)
                  obtain ⟨ad227, e227, hx227_0⟩ := Kd.at_string HR0.out x3_1 p227 q227
                  obtain rfl : ad226 = ad227 := (by injection e227)
                  replace p227 := eq_true p227
                  replace q227 := eq_true q227
                  go_wp2_with (first | (go_at_call 37; (with_reducible refine (estafetteref01_in.calls k1 (rdOf ByteArray.empty l0 x3_1) 0 false _ A5.out).mono ?_); rintro e w' ⟨rfl, ⟨nd, rfl⟩⟩; have p229 : 0 ≤ (x3_1 : Int) := of_decide_eq_true (by first | (with_reducible assumption) | assumption); have q229 : x3_1 < (l0.length : Int) := of_decide_eq_true (by first | (with_reducible assumption) | assumption); obtain ⟨ad229, e229, hx229_0⟩ := Kd.at_string HR0.out x3_1 p229 q229; obtain rfl : ad226 = ad229 := (by injection e229); replace p229 := eq_true p229; replace q229 := eq_true q229) | (go_at_call 37; (with_reducible refine (estafetteref01_in.calls k1 (rdOf ByteArray.empty l0 x3_1) 10 false _ A7.out).mono ?_); rintro e w' ⟨rfl, ⟨nd, rfl⟩⟩; have p231 : 0 ≤ (x3_1 : Int) := of_decide_eq_true (by first | (with_reducible assumption) | assumption); have q231 : x3_1 < (l0.length : Int) := of_decide_eq_true (by first | (with_reducible assumption) | assumption); obtain ⟨ad231, e231, hx231_0⟩ := Kd.at_string HR0.out x3_1 p231 q231; obtain rfl : ad226 = ad231 := (by injection e231); replace p231 := eq_true p231; replace q231 := eq_true q231) | (go_at_call 37; (with_reducible refine (estafetteref01_in.calls k1 (rdOf ByteArray.empty l0 x3_1) 13 true _ A9.out).mono ?_); rintro e w' ⟨rfl, ⟨nd, rfl⟩⟩))
                  go_ret
                  exact ⟨by first | rfl | (simp; done) | (simp [*]; done), by repeat (first | exact Drawn0.refl _ | apply Drawn0.step)⟩
                · replace c10 := Bool.eq_false_iff.mpr c10
                  subst c10
                  have H1 : (estafetteref01_Good.l0 k1 l0 (wrap64 (x3_1 + 1))) = some r := by rw [if_neg (show ¬ (false = true) by decide)] at H; exact H
                  clear H
                  have H := H1
                  clear H1
                  have H' := Aside0.mk H
                  clear H
                  have p226 : 0 ≤ (x3_1 : Int) := of_decide_eq_true (by first | (with_reducible assumption) | assumption)
                  have q226 : x3_1 < (l0.length : Int) := of_decide_eq_true (by first | (with_reducible assumption) | assumption)
                  obtain ⟨ad226, e226, hx226_0⟩ := Kd.at_string HR0.out x3_1 p226 q226
                  cases e226
                  replace p226 := eq_true p226
                  replace q226 := eq_true q226
                  have p227 : 0 ≤ (x3_1 : Int) := of_decide_eq_true (by first | (with_reducible assumption) | assumption)
                  have q227 : x3_1 < (l0.length : Int) := of_decide_eq_true (by first | (with_reducible assumption) | assumption)
                  obtain ⟨ad227, e227, hx227_0⟩ := Kd.at_string HR0.out x3_1 p227 q227
                  obtain rfl : ad226 = ad227 := (by injection e227)
                  replace p227 := eq_true p227
                  replace q227 := eq_true q227
                  go_wp2_with (first | (go_at_call 37; (with_reducible refine (estafetteref01_in.calls k1 (rdOf ByteArray.empty l0 x3_1) 0 false _ A5.out).mono ?_); rintro e w' ⟨rfl, ⟨nd, rfl⟩⟩; have p229 : 0 ≤ (x3_1 : Int) := of_decide_eq_true (by first | (with_reducible assumption) | assumption); have q229 : x3_1 < (l0.length : Int) := of_decide_eq_true (by first | (with_reducible assumption) | assumption); obtain ⟨ad229, e229, hx229_0⟩ := Kd.at_string HR0.out x3_1 p229 q229; obtain rfl : ad226 = ad229 := (by injection e229); replace p229 := eq_true p229; replace q229 := eq_true q229) | (go_at_call 37; (with_reducible refine (estafetteref01_in.calls k1 (rdOf ByteArray.empty l0 x3_1) 10 false _ A7.out).mono ?_); rintro e w' ⟨rfl, ⟨nd, rfl⟩⟩; have p231 : 0 ≤ (x3_1 : Int) := of_decide_eq_true (by first | (with_reducible assumption) | assumption); have q231 : x3_1 < (l0.length : Int) := of_decide_eq_true (by first | (with_reducible assumption) | assumption); obtain ⟨ad231, e231, hx231_0⟩ := Kd.at_string HR0.out x3_1 p231 q231; obtain rfl : ad226 = ad231 := (by injection e231); replace p231 := eq_true p231; replace q231 := eq_true q231) | (go_at_call 37; (with_reducible refine (estafetteref01_in.calls k1 (rdOf ByteArray.empty l0 x3_1) 13 false _ A9.out).mono ?_); rintro e w' ⟨rfl, ⟨nd, rfl⟩⟩))
                  go_roundg k1
                  case measure => have := HK1.out; omega
                  case rel => exact ⟨(wrap64 (x3_1 + 1)), (by first | rfl | (simp; done) | (simp [*]; done)), H', ⟨by have := HK1.out; omega⟩, by repeat (first | exact Drawn0.refl _ | apply Drawn0.step)⟩
        · rw [if_neg c3] at H
          exact absurd H (by simp)
      · rw [if_neg c2] at H
        have c2b0 : decide (x3_1 < (l0.length : Int)) = false := decide_eq_false c2
        clear c2
        replace H := Option.bind_eq_some_iff.mp H
        obtain ⟨t225, A110, H⟩ := H
        replace H : (some (decide (t225 ≤ 65536))) = some r := H
        have A11 := Aside0.mk A110
        clear A110
        obtain rfl := Option.some.inj H
        go_wp2_with (first | ((with_reducible refine gate_callee (f := 38) rfl ?_); refine goesL_ (some 38) rfl rfl Tryd.func38 (by kernel_rfl) rfl #[.slice A0 l0.length c0] rfl (by (try simp only [List.map_toArray, List.map_cons, List.map_nil]); first | done | rfl | (simp only [List.length_drop, List.length_take]; rfl)) ?_; (with_reducible refine (estafetteref01_Size.calls k1 _ _ l0 t225 _ ?side1 ?side2 A11.out).mono ?_); (case side1 => repeat (first | exact HR0.out | (with_reducible refine Kd.C_alloc ?_ _) | (with_reducible refine Kd.C_drewN ?_ _) | (with_reducible refine Kd.C_drew ?_))); (case side2 => exact HC0.out); rintro e w' ⟨rfl, ⟨nd, rfl⟩⟩; refine ⟨_, rfl, ?_⟩))
        go_ret
        exact ⟨by first | rfl | (simp; done) | (simp [*]; done), by repeat (first | exact Drawn0.refl _ | apply Drawn0.step)⟩

end Go.Proofs.YtljhfaneepehcaaDoor.PB
