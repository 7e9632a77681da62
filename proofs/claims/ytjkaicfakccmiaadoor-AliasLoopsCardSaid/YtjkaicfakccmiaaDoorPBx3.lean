/- For every input: what the functions below return, or the statement that this text proves. Written by a program of this claim.s author (a turned print). -/
import Derived.Test.YtjkaicfakccmiaaDoorPBx0
import Derived.Test.YtjkaicfakccmiaaDoorPBx2
namespace Go.Proofs.YtjkaicfakccmiaaDoor.PB
open Go.RowKit Go.Proofs.YtjkaicfakccmiaaDoorW.PrintWords Go.Proofs.YtjkaicfakccmiaaDoorW.PrintLast Go.Proofs.YtjkaicfakccmiaaDoorW.PrintMore
attribute [local go_sem] max2_int min2_int max_two min_two max_three min_three max_four min_four   -- for this text's walks alone
set_option linter.unusedVariables false
set_option linter.unusedSimpArgs false

/-! ### estafetteref01_Local: function 23 -/
mutual
def estafetteref01_Local.l0 : Nat → List ByteArray → Int → Option (Bool)
  | 0, _, _ => none
  | k + 1, x3, x4 => if x4 < (x3.length : Int) then (if 0 ≤ x4 then (if (rdOf ByteArray.empty x3 x4).toList = ([] : List UInt8) then (some false) else (estafetteref01_Local.l1 k x3 x4 0)) else (none)) else (some true)
def estafetteref01_Local.l1 : Nat → List ByteArray → Int → Int → Option (Bool)
  | 0, _, _, _ => none
  | k + 1, x3, x4, x5 => if 0 ≤ x4 then (if x4 < (x3.length : Int) then (if x5 < ((rdOf ByteArray.empty x3 x4).size : Int) then (if 0 ≤ x5 then ((estafetteref01_letter.f (bt (rdOf ByteArray.empty x3 x4) x5)).bind fun t140 => (if t140 = true then (estafetteref01_Local.l1 k x3 x4 (wrap64 (x5 + 1))) else ((estafetteref01_in.f k (⟨#[33, 35, 36, 37, 38, 39, 42, 43, 45, 47, 61, 63, 94, 95, 96, 123, 124, 125, 126]⟩ : ByteArray) (bt (rdOf ByteArray.empty x3 x4) x5)).bind fun t142 => (if t142 = true then (estafetteref01_Local.l1 k x3 x4 (wrap64 (x5 + 1))) else (some false))))) else (none)) else (estafetteref01_Local.l0 k x3 (wrap64 (x4 + 1)))) else (none)) else (none)
end
def estafetteref01_Local.f (k : Nat) (a0 : ByteArray) : Option (Bool) := if (a0.size : Int) > 64 then (some false) else ((estafetteref01_Cut.f k a0 46).bind fun t134 => (estafetteref01_Local.l0 k t134 0))
theorem estafetteref01_Local.mono_l : ∀ k, (∀ y0 y1, LeO (estafetteref01_Local.l0 k y0 y1) (estafetteref01_Local.l0 (k + 1) y0 y1)) ∧ (∀ y0 y1 y2, LeO (estafetteref01_Local.l1 k y0 y1 y2) (estafetteref01_Local.l1 (k + 1) y0 y1 y2))
  | 0 => ⟨fun _ _ r h => by simp [estafetteref01_Local.l0] at h, fun _ _ _ r h => by simp [estafetteref01_Local.l1] at h⟩
  | k + 1 => by
    obtain ⟨ih0, ih1⟩ := estafetteref01_Local.mono_l k
    refine ⟨?_, ?_⟩
    · intro y0 y1
      unfold estafetteref01_Local.l0
      repeat' first
      | (with_reducible exact ih0 _ _)
      | (with_reducible exact ih1 _ _ _)
      | (with_reducible exact estafetteref01_Cut.mono _ _ _)
      | (with_reducible exact estafetteref01_in.mono _ _ _)
      | (with_reducible exact LeO.refl _)
      | (with_reducible exact LeO.none _)
      | (with_reducible refine LeO.ite ?_ ?_)
      | (with_reducible refine LeO.bind ?_ (fun _ => ?_))
      | exact ih0 _ _
      | exact ih1 _ _ _
      | exact estafetteref01_Cut.mono _ _ _
      | exact estafetteref01_in.mono _ _ _
      | exact LeO.none _
      | refine LeO.ite ?_ ?_
      | refine LeO.bind ?_ (fun _ => ?_)
    · intro y0 y1 y2
      unfold estafetteref01_Local.l1
      repeat' first
      | (with_reducible exact ih0 _ _)
      | (with_reducible exact ih1 _ _ _)
      | (with_reducible exact estafetteref01_Cut.mono _ _ _)
      | (with_reducible exact estafetteref01_in.mono _ _ _)
      | (with_reducible exact LeO.refl _)
      | (with_reducible exact LeO.none _)
      | (with_reducible refine LeO.ite ?_ ?_)
      | (with_reducible refine LeO.bind ?_ (fun _ => ?_))
      | exact ih0 _ _
      | exact ih1 _ _ _
      | exact estafetteref01_Cut.mono _ _ _
      | exact estafetteref01_in.mono _ _ _
      | exact LeO.none _
      | refine LeO.ite ?_ ?_
      | refine LeO.bind ?_ (fun _ => ?_)
theorem estafetteref01_Local.mono : ∀ a0 k, LeO (estafetteref01_Local.f k a0) (estafetteref01_Local.f (k + 1) a0) := by
  intro a0 k
  obtain ⟨ih0, ih1⟩ := estafetteref01_Local.mono_l k
  unfold estafetteref01_Local.f
  repeat' first
      | (with_reducible exact ih0 _ _)
      | (with_reducible exact ih1 _ _ _)
      | (with_reducible exact estafetteref01_Cut.mono _ _ _)
      | (with_reducible exact estafetteref01_in.mono _ _ _)
      | (with_reducible exact LeO.refl _)
      | (with_reducible exact LeO.none _)
      | (with_reducible refine LeO.ite ?_ ?_)
      | (with_reducible refine LeO.bind ?_ (fun _ => ?_))
      | exact ih0 _ _
      | exact ih1 _ _ _
      | exact estafetteref01_Cut.mono _ _ _
      | exact estafetteref01_in.mono _ _ _
      | exact LeO.none _
      | refine LeO.ite ?_ ?_
      | refine LeO.bind ?_ (fun _ => ?_)
set_option maxHeartbeats 8000000 in
set_option maxRecDepth 100000 in
theorem estafetteref01_Local.calls (k : Nat) (a0 : ByteArray) (r : Bool) (w : World) (h : estafetteref01_Local.f k a0 = some r) :
    Calls Tryd.prog 23 #[.string a0] w fun e w' => e = .returned (.bool r) ∧ Below w.heap.size w w' := by
  have HB := Aside0.mk (Below.refl w.heap.size w)
  have H : (if (a0.size : Int) > 64 then (some false) else ((estafetteref01_Cut.f k a0 46).bind fun t134 => (estafetteref01_Local.l0 k t134 0))) = some r := h
  clear h
  by_cases c2 : (a0.size : Int) > 64
  · rw [if_pos c2] at H
    have c2b0 : decide (64 < (a0.size : Int)) = true := decide_eq_true c2
    have c2b1 : decide (64 < a0.size) = true := decide_eq_true (by omega)
    clear c2
    obtain rfl := Option.some.inj H
    go_enter Tryd.func23, Tryd.ntmps23
    go_wp2
    go_ret
    exact ⟨by first | rfl | (simp [errW_none, errW_some] <;> rfl) | (simp [*, errW_none, errW_some] <;> rfl), by repeat (first | (with_reducible first | exact HB.out | apply below_alloc | apply pw_below_drewN | apply below_drew1) | exact HB.out)⟩
  · rw [if_neg c2] at H
    have c2b0 : decide (64 < (a0.size : Int)) = false := decide_eq_false c2
    have c2b1 : decide (64 < a0.size) = false := decide_eq_false (by omega)
    clear c2
    replace H := Option.bind_eq_some_iff.mp H
    obtain ⟨t134, A30, H⟩ := H
    replace H : (estafetteref01_Local.l0 k t134 0) = some r := H
    have A3 := Aside0.mk A30
    clear A30
    have H' := Aside0.mk H
    clear H
    go_enter Tryd.func23, Tryd.ntmps23
    go_wp2_with (first | ((with_reducible refine gate_callee (f := 27) rfl ?_); refine goesL_ (some 10) rfl rfl Tryd.func27 (by kernel_rfl) rfl #[.string a0, .int .u8 46] rfl (by (try simp only [List.map_toArray, List.map_cons, List.map_nil]); first | done | rfl | (simp only [List.length_drop, List.length_take]; rfl)) ?_; (with_reducible refine (estafetteref01_Cut.calls k a0 46 t134 _ A3.out).mono ?_); rintro e w4 ⟨v135, rfl, ho0, hb⟩; refine ⟨_, rfl, ?_⟩; have n0_ := Aside0.mk (Kd.R_lower ho0 (below_size (by repeat (first | (with_reducible first | exact HB.out | apply below_alloc | apply pw_below_drewN | apply below_drew1) | exact HB.out)))); have n1_ := Aside0.mk (below_step (by repeat (first | (with_reducible first | exact HB.out | apply below_alloc | apply pw_below_drewN | apply below_drew1) | exact HB.out)) hb); clear HB; have HO136 := n0_; have HB := n1_; clear n0_ n1_; (try clear hb); (try clear hb2); (try clear hk); (try clear hi); (try clear ho0)))
    go_loopg [4] k (fun kq v4 w' => ∃ (x4_1 : Int), v4 = .int .i64 x4_1 ∧ Aside0 (estafetteref01_Local.l0 kq t134 x4_1 = some r) ∧ Aside0 (kq ≤ k) ∧ Aside0 (Kd.R Kd.string 9 w' w.heap.size (fun _ => True) v135 t134) ∧ Aside0 (Below w.heap.size w w'))
    case atStart => exact ⟨(0), (by first | rfl | (simp; done) | (simp [*]; done)), H', ⟨Nat.le_refl _⟩, ⟨by (with_reducible repeat (first | apply Kd.R_alloc | apply Kd.R_drewN | apply Kd.R_drew)); exact HO136.out⟩, ⟨by repeat (first | (with_reducible first | exact HB.out | apply below_alloc | apply pw_below_drewN | apply below_drew1) | exact HB.out)⟩⟩
    case round =>
      clear H'
      try clear c2
      try clear c2b0
      try clear c2b1
      try clear p2
      obtain ⟨x4_1, rfl, HA, HK1, HO_3, HB⟩ := hrel
      cases gk with
      | zero => exact absurd HA.out (by simp [estafetteref01_Local.l0])
      | succ k1 =>
        have H := HA.out
        clear HA
        simp only [estafetteref01_Local.l0] at H
        by_cases c5 : x4_1 < (t134.length : Int)
        · rw [if_pos c5] at H
          have c5b0 : decide (x4_1 < (t134.length : Int)) = true := decide_eq_true c5
          clear c5
          by_cases c6 : 0 ≤ x4_1
          · rw [if_pos c6] at H
            have c6b0 : decide (0 ≤ x4_1) = true := decide_eq_true c6
            clear c6
            by_cases c7 : (rdOf ByteArray.empty t134 x4_1).toList = ([] : List UInt8)
            · rw [if_pos c7] at H
              have c7b0 : ((rdOf ByteArray.empty t134 x4_1).toList == ([] : List UInt8)) = true := beq_iff_eq.mpr c7
              have c7b1 : ((rdOf ByteArray.empty t134 x4_1).toList != ([] : List UInt8)) = false := bne_eq_false_iff_eq.mpr c7
              clear c7
              obtain rfl := Option.some.inj H
              obtain ⟨Ao8, co8, eo8⟩ := Kd.R_slice HO_3.out
              subst eo8
              have p137 : 0 ≤ (x4_1 : Int) := of_decide_eq_true (by first | (with_reducible assumption) | assumption)
              have q137 : x4_1 < (t134.length : Int) := of_decide_eq_true (by first | (with_reducible assumption) | assumption)
              obtain ⟨ad137, e137, hx137_0⟩ := Kd.at_string (Kd.R_reads' HO_3.out).2.2 x4_1 p137 q137
              cases e137
              replace p137 := eq_true p137
              replace q137 := eq_true q137
              go_wp2
              go_ret
              exact ⟨by first | rfl | (simp [errW_none, errW_some] <;> rfl) | (simp [*, errW_none, errW_some] <;> rfl), by repeat (first | (with_reducible first | exact HB.out | apply below_alloc | apply pw_below_drewN | apply below_drew1) | exact HB.out)⟩
            · rw [if_neg c7] at H
              have c7b0 : ((rdOf ByteArray.empty t134 x4_1).toList == ([] : List UInt8)) = false := beq_eq_false_iff_ne.mpr c7
              have c7b1 : ((rdOf ByteArray.empty t134 x4_1).toList != ([] : List UInt8)) = true := bne_iff_ne.mpr c7
              have H' := Aside0.mk H
              clear H
              obtain ⟨Ao9, co9, eo9⟩ := Kd.R_slice HO_3.out
              subst eo9
              have p137 : 0 ≤ (x4_1 : Int) := of_decide_eq_true (by first | (with_reducible assumption) | assumption)
              have q137 : x4_1 < (t134.length : Int) := of_decide_eq_true (by first | (with_reducible assumption) | assumption)
              obtain ⟨ad137, e137, hx137_0⟩ := Kd.at_string (Kd.R_reads' HO_3.out).2.2 x4_1 p137 q137
              cases e137
              replace p137 := eq_true p137
              replace q137 := eq_true q137
              go_wp2
              go_loopg [5] k1 (fun kq v5 w' => ∃ (x5_2 : Int), v5 = .int .i64 x5_2 ∧ Aside0 (estafetteref01_Local.l1 kq t134 x4_1 x5_2 = some r) ∧ Aside0 (kq ≤ k1) ∧ Aside0 (Kd.R Kd.string 9 w' w.heap.size (fun _ => True) (.slice (some ad137) t134.length co9) t134) ∧ Aside0 (Below w.heap.size w w'))
              case atStart => exact ⟨(0), (by first | rfl | (simp; done) | (simp [*]; done)), H', ⟨Nat.le_refl _⟩, ⟨by (with_reducible repeat (first | apply Kd.R_alloc | apply Kd.R_drewN | apply Kd.R_drew)); exact HO_3.out⟩, ⟨by repeat (first | (with_reducible first | exact HB.out | apply below_alloc | apply pw_below_drewN | apply below_drew1) | exact HB.out)⟩⟩
              case round =>
                clear H'
                try clear p1
                try clear q1
                try clear hx1
                try clear c2
                try clear c2b0
                try clear c2b1
                try clear p2
                try clear c5
                try clear c5b0
                try clear c6
                try clear c6b0
                try clear c7
                try clear c7b0
                try clear c7b1
                try clear hx137_0
                try clear p137
                try clear p2
                try clear q137
                obtain ⟨x5_2, rfl, HA, HK2, HO_3, HB⟩ := hrel
                cases gk with
                | zero => exact absurd HA.out (by simp [estafetteref01_Local.l1])
                | succ k2 =>
                  have H := HA.out
                  clear HA
                  simp only [estafetteref01_Local.l1] at H
                  by_cases c10 : 0 ≤ x4_1
                  · rw [if_pos c10] at H
                    have c10b0 : decide (0 ≤ x4_1) = true := decide_eq_true c10
                    clear c10
                    by_cases c11 : x4_1 < (t134.length : Int)
                    · rw [if_pos c11] at H
                      have c11b0 : decide (x4_1 < (t134.length : Int)) = true := decide_eq_true c11
                      clear c11
                      by_cases c12 : x5_2 < ((rdOf ByteArray.empty t134 x4_1).size : Int)
                      · rw [if_pos c12] at H
                        have c12b0 : decide (x5_2 < ((rdOf ByteArray.empty t134 x4_1).size : Int)) = true := decide_eq_true c12
                        clear c12
                        by_cases c13 : 0 ≤ x5_2
                        · rw [if_pos c13] at H
                          have c13b0 : decide (0 ≤ x5_2) = true := decide_eq_true c13
                          clear c13
                          replace H := Option.bind_eq_some_iff.mp H
                          obtain ⟨t140, A150, H⟩ := H
                          replace H : (if t140 = true then (estafetteref01_Local.l1 k2 t134 x4_1 (wrap64 (x5_2 + 1))) else ((estafetteref01_in.f k2 (⟨#[33, 35, 36, 37, 38, 39, 42, 43, 45, 47, 61, 63, 94, 95, 96, 123, 124, 125, 126]⟩ : ByteArray) (bt (rdOf ByteArray.empty t134 x4_1) x5_2)).bind fun t142 => (if t142 = true then (estafetteref01_Local.l1 k2 t134 x4_1 (wrap64 (x5_2 + 1))) else (some false)))) = some r := H
                          have A15 := Aside0.mk A150
                          clear A150
                          by_cases c16 : t140 = true
                          · subst c16
                            have H1 : (estafetteref01_Local.l1 k2 t134 x4_1 (wrap64 (x5_2 + 1))) = some r := by rw [if_pos rfl] at H; exact H
                            clear H
                            have H := H1
                            clear H1
                            have H' := Aside0.mk H
                            clear H
                            have p138 : 0 ≤ (x4_1 : Int) := of_decide_eq_true (by first | (with_reducible assumption) | assumption)
                            have q138 : x4_1 < (t134.length : Int) := of_decide_eq_true (by first | (with_reducible assumption) | assumption)
                            obtain ⟨ad138, e138, hx138_0⟩ := Kd.at_string (Kd.R_reads' HO_3.out).2.2 x4_1 p138 q138
                            obtain rfl : ad137 = ad138 := (by injection e138)
                            replace p138 := eq_true p138
                            replace q138 := eq_true q138
                            have p139 : 0 ≤ (x4_1 : Int) := of_decide_eq_true (by first | (with_reducible assumption) | assumption)
                            have q139 : x4_1 < (t134.length : Int) := of_decide_eq_true (by first | (with_reducible assumption) | assumption)
                            obtain ⟨ad139, e139, hx139_0⟩ := Kd.at_string (Kd.R_reads' HO_3.out).2.2 x4_1 p139 q139
                            obtain rfl : ad137 = ad139 := (by injection e139)
                            replace p139 := eq_true p139
                            replace q139 := eq_true q139
                            have p14 : 0 ≤ (x5_2 : Int) := of_decide_eq_true (by first | (with_reducible assumption) | assumption)
                            have q14 : x5_2 < ((rdOf ByteArray.empty t134 x4_1).size : Int) := of_decide_eq_true (by first | (with_reducible assumption) | assumption)
                            have hx14 := bt_at (rdOf ByteArray.empty t134 x4_1) x5_2
                            replace p14 := eq_true p14
                            replace q14 := eq_true q14
                            go_wp2_with (first | ((with_reducible refine gate_callee (f := 28) rfl ?_); refine goesL_ (some 37) rfl rfl Tryd.func28 (by kernel_rfl) rfl #[.int .u8 (bt (rdOf ByteArray.empty t134 x4_1) x5_2)] rfl (by (try simp only [List.map_toArray, List.map_cons, List.map_nil]); first | done | rfl | (simp only [List.length_drop, List.length_take]; rfl)) ?_; (with_reducible refine (estafetteref01_letter.calls (bt (rdOf ByteArray.empty t134 x4_1) x5_2) true _ A15.out).mono ?_); rintro e w' ⟨rfl, ⟨nd, rfl⟩⟩; refine ⟨_, rfl, ?_⟩))
                            go_roundg k2
                            case measure => have := HK1.out; have := HK2.out; omega
                            case rel => exact ⟨(wrap64 (x5_2 + 1)), (by first | rfl | (simp; done) | (simp [*]; done)), H', ⟨by have := HK1.out; have := HK2.out; omega⟩, ⟨by (with_reducible repeat (first | apply Kd.R_alloc | apply Kd.R_drewN | apply Kd.R_drew)); exact HO_3.out⟩, ⟨by repeat (first | (with_reducible first | exact HB.out | apply below_alloc | apply pw_below_drewN | apply below_drew1) | exact HB.out)⟩⟩
                          · replace c16 := Bool.eq_false_iff.mpr c16
                            subst c16
                            have H1 : ((estafetteref01_in.f k2 (⟨#[33, 35, 36, 37, 38, 39, 42, 43, 45, 47, 61, 63, 94, 95, 96, 123, 124, 125, 126]⟩ : ByteArray) (bt (rdOf ByteArray.empty t134 x4_1) x5_2)).bind fun t142 => (if t142 = true then (estafetteref01_Local.l1 k2 t134 x4_1 (wrap64 (x5_2 + 1))) else (some false))) = some r := by rw [if_neg (show ¬ (false = true) by decide)] at H; exact H
                            clear H
                            have H := H1
                            clear H1
                            replace H := Option.bind_eq_some_iff.mp H
                            obtain ⟨t142, A180, H⟩ := H
                            replace H : (if t142 = true then (estafetteref01_Local.l1 k2 t134 x4_1 (wrap64 (x5_2 + 1))) else (some false)) = some r := H
                            have A18 := Aside0.mk A180
                            clear A180
                            by_cases c19 : t142 = true
                            · subst c19
                              have H1 : (estafetteref01_Local.l1 k2 t134 x4_1 (wrap64 (x5_2 + 1))) = some r := by rw [if_pos rfl] at H; exact H
                              clear H
                              have H := H1
                              clear H1
                              have H' := Aside0.mk H
                              clear H
                              have p138 : 0 ≤ (x4_1 : Int) := of_decide_eq_true (by first | (with_reducible assumption) | assumption)
                              have q138 : x4_1 < (t134.length : Int) := of_decide_eq_true (by first | (with_reducible assumption) | assumption)
                              obtain ⟨ad138, e138, hx138_0⟩ := Kd.at_string (Kd.R_reads' HO_3.out).2.2 x4_1 p138 q138
                              obtain rfl : ad137 = ad138 := (by injection e138)
                              replace p138 := eq_true p138
                              replace q138 := eq_true q138
                              have p139 : 0 ≤ (x4_1 : Int) := of_decide_eq_true (by first | (with_reducible assumption) | assumption)
                              have q139 : x4_1 < (t134.length : Int) := of_decide_eq_true (by first | (with_reducible assumption) | assumption)
                              obtain ⟨ad139, e139, hx139_0⟩ := Kd.at_string (Kd.R_reads' HO_3.out).2.2 x4_1 p139 q139
                              obtain rfl : ad137 = ad139 := (by injection e139)
                              replace p139 := eq_true p139
                              replace q139 := eq_true q139
                              have p14 : 0 ≤ (x5_2 : Int) := of_decide_eq_true (by first | (with_reducible assumption) | assumption)
                              have q14 : x5_2 < ((rdOf ByteArray.empty t134 x4_1).size : Int) := of_decide_eq_true (by first | (with_reducible assumption) | assumption)
                              have hx14 := bt_at (rdOf ByteArray.empty t134 x4_1) x5_2
                              replace p14 := eq_true p14
                              replace q14 := eq_true q14
                              go_wp2_with (first | ((with_reducible refine gate_callee (f := 28) rfl ?_); refine goesL_ (some 37) rfl rfl Tryd.func28 (by kernel_rfl) rfl #[.int .u8 (bt (rdOf ByteArray.empty t134 x4_1) x5_2)] rfl (by (try simp only [List.map_toArray, List.map_cons, List.map_nil]); first | done | rfl | (simp only [List.length_drop, List.length_take]; rfl)) ?_; (with_reducible refine (estafetteref01_letter.calls (bt (rdOf ByteArray.empty t134 x4_1) x5_2) false _ A15.out).mono ?_); rintro e w' ⟨rfl, ⟨nd, rfl⟩⟩; refine ⟨_, rfl, ?_⟩; have p141 : 0 ≤ (x4_1 : Int) := of_decide_eq_true (by first | (with_reducible assumption) | assumption); have q141 : x4_1 < (t134.length : Int) := of_decide_eq_true (by first | (with_reducible assumption) | assumption); obtain ⟨ad141, e141, hx141_0⟩ := Kd.at_string (Kd.R_reads' HO_3.out).2.2 x4_1 p141 q141; obtain rfl : ad137 = ad141 := (by injection e141); replace p141 := eq_true p141; replace q141 := eq_true q141; have p17 : 0 ≤ (x5_2 : Int) := of_decide_eq_true (by first | (with_reducible assumption) | assumption); have q17 : x5_2 < ((rdOf ByteArray.empty t134 x4_1).size : Int) := of_decide_eq_true (by first | (with_reducible assumption) | assumption); have hx17 := bt_at (rdOf ByteArray.empty t134 x4_1) x5_2; replace p17 := eq_true p17; replace q17 := eq_true q17) | (go_at_call 29; (with_reducible refine (estafetteref01_in.calls k2 (⟨#[33, 35, 36, 37, 38, 39, 42, 43, 45, 47, 61, 63, 94, 95, 96, 123, 124, 125, 126]⟩ : ByteArray) (bt (rdOf ByteArray.empty t134 x4_1) x5_2) true _ A18.out).mono ?_); rintro e w' ⟨rfl, ⟨nd, rfl⟩⟩))
                              go_roundg k2
                              case measure => have := HK1.out; have := HK2.out; omega
                              case rel => exact ⟨(wrap64 (x5_2 + 1)), (by first | rfl | (simp; done) | (simp [*]; done)), H', ⟨by have := HK1.out; have := HK2.out; omega⟩, ⟨by (with_reducible repeat (first | apply Kd.R_alloc | apply Kd.R_drewN | apply Kd.R_drew)); exact HO_3.out⟩, ⟨by repeat (first | (with_reducible first | exact HB.out | apply below_alloc | apply pw_below_drewN | apply below_drew1) | exact HB.out)⟩⟩
                            · replace c19 := Bool.eq_false_iff.mpr c19
                              subst c19
                              have H1 : (some false) = some r := by rw [if_neg (show ¬ (false = true) by decide)] at H; exact H
                              clear H
                              have H := H1
                              clear H1
                              obtain rfl := Option.some.inj H
                              have p138 : 0 ≤ (x4_1 : Int) := of_decide_eq_true (by first | (with_reducible assumption) | assumption)
                              have q138 : x4_1 < (t134.length : Int) := of_decide_eq_true (by first | (with_reducible assumption) | assumption)
                              obtain ⟨ad138, e138, hx138_0⟩ := Kd.at_string (Kd.R_reads' HO_3.out).2.2 x4_1 p138 q138
                              obtain rfl : ad137 = ad138 := (by injection e138)
                              replace p138 := eq_true p138
                              replace q138 := eq_true q138
                              have p139 : 0 ≤ (x4_1 : Int) := of_decide_eq_true (by first | (with_reducible assumption) | assumption)
                              have q139 : x4_1 < (t134.length : Int) := of_decide_eq_true (by first | (with_reducible assumption) | assumption)
                              obtain ⟨ad139, e139, hx139_0⟩ := Kd.at_string (Kd.R_reads' HO_3.out).2.2 x4_1 p139 q139
                              obtain rfl : ad137 = ad139 := (by injection e139)
                              replace p139 := eq_true p139
                              replace q139 := eq_true q139
                              have p14 : 0 ≤ (x5_2 : Int) := of_decide_eq_true (by first | (with_reducible assumption) | assumption)
                              have q14 : x5_2 < ((rdOf ByteArray.empty t134 x4_1).size : Int) := of_decide_eq_true (by first | (with_reducible assumption) | assumption)
                              have hx14 := bt_at (rdOf ByteArray.empty t134 x4_1) x5_2
                              replace p14 := eq_true p14
                              replace q14 := eq_true q14
                              go_wp2_with (first | ((with_reducible refine gate_callee (f := 28) rfl ?_); refine goesL_ (some 37) rfl rfl Tryd.func28 (by kernel_rfl) rfl #[.int .u8 (bt (rdOf ByteArray.empty t134 x4_1) x5_2)] rfl (by (try simp only [List.map_toArray, List.map_cons, List.map_nil]); first | done | rfl | (simp only [List.length_drop, List.length_take]; rfl)) ?_; (with_reducible refine (estafetteref01_letter.calls (bt (rdOf ByteArray.empty t134 x4_1) x5_2) false _ A15.out).mono ?_); rintro e w' ⟨rfl, ⟨nd, rfl⟩⟩; refine ⟨_, rfl, ?_⟩; have p141 : 0 ≤ (x4_1 : Int) := of_decide_eq_true (by first | (with_reducible assumption) | assumption); have q141 : x4_1 < (t134.length : Int) := of_decide_eq_true (by first | (with_reducible assumption) | assumption); obtain ⟨ad141, e141, hx141_0⟩ := Kd.at_string (Kd.R_reads' HO_3.out).2.2 x4_1 p141 q141; obtain rfl : ad137 = ad141 := (by injection e141); replace p141 := eq_true p141; replace q141 := eq_true q141; have p17 : 0 ≤ (x5_2 : Int) := of_decide_eq_true (by first | (with_reducible assumption) | assumption); have q17 : x5_2 < ((rdOf ByteArray.empty t134 x4_1).size : Int) := of_decide_eq_true (by first | (with_reducible assumption) | assumption); have hx17 := bt_at (rdOf ByteArray.empty t134 x4_1) x5_2; replace p17 := eq_true p17; replace q17 := eq_true q17) | (go_at_call 29; (with_reducible refine (estafetteref01_in.calls k2 (⟨#[33, 35, 36, 37, 38, 39, 42, 43, 45, 47, 61, 63, 94, 95, 96, 123, 124, 125, 126]⟩ : ByteArray) (bt (rdOf ByteArray.empty t134 x4_1) x5_2) false _ A18.out).mono ?_); rintro e w' ⟨rfl, ⟨nd, rfl⟩⟩))
                              go_ret
                              exact ⟨by first | rfl | (simp [errW_none, errW_some] <;> rfl) | (simp [*, errW_none, errW_some] <;> rfl), by repeat (first | (with_reducible first | exact HB.out | apply below_alloc | apply pw_below_drewN | apply below_drew1) | exact HB.out)⟩
                        · rw [if_neg c13] at H
                          exact absurd H (by simp)
                      · rw [if_neg c12] at H
                        have c12b0 : decide (x5_2 < ((rdOf ByteArray.empty t134 x4_1).size : Int)) = false := decide_eq_false c12
                        clear c12
                        have H' := Aside0.mk H
                        clear H
                        have p138 : 0 ≤ (x4_1 : Int) := of_decide_eq_true (by first | (with_reducible assumption) | assumption)
                        have q138 : x4_1 < (t134.length : Int) := of_decide_eq_true (by first | (with_reducible assumption) | assumption)
                        obtain ⟨ad138, e138, hx138_0⟩ := Kd.at_string (Kd.R_reads' HO_3.out).2.2 x4_1 p138 q138
                        obtain rfl : ad137 = ad138 := (by injection e138)
                        replace p138 := eq_true p138
                        replace q138 := eq_true q138
                        go_wp2
                        go_roundg k2
                        case measure => have := HK1.out; have := HK2.out; omega
                        case rel => exact ⟨(wrap64 (x4_1 + 1)), (by first | rfl | (simp; done) | (simp [*]; done)), H', ⟨by have := HK1.out; have := HK2.out; omega⟩, ⟨by (with_reducible repeat (first | apply Kd.R_alloc | apply Kd.R_drewN | apply Kd.R_drew)); exact HO_3.out⟩, ⟨by repeat (first | (with_reducible first | exact HB.out | apply below_alloc | apply pw_below_drewN | apply below_drew1) | exact HB.out)⟩⟩
                    · rw [if_neg c11] at H
                      exact absurd H (by simp)
                  · rw [if_neg c10] at H
                    exact absurd H (by simp)
          · rw [if_neg c6] at H
            exact absurd H (by simp)
        · rw [if_neg c5] at H
          have c5b0 : decide (x4_1 < (t134.length : Int)) = false := decide_eq_false c5
          clear c5
          obtain rfl := Option.some.inj H
          obtain ⟨Ao20, co20, eo20⟩ := Kd.R_slice HO_3.out
          subst eo20
          go_wp2
          go_ret
          exact ⟨by first | rfl | (simp [errW_none, errW_some] <;> rfl) | (simp [*, errW_none, errW_some] <;> rfl), by repeat (first | (with_reducible first | exact HB.out | apply below_alloc | apply pw_below_drewN | apply below_drew1) | exact HB.out)⟩

/-! ### estafetteref01_Domain: function 24 -/
mutual
def estafetteref01_Domain.l0 : Nat → List ByteArray → Int → Option (Bool)
  | 0, _, _ => none
  | k + 1, x3, x4 => if x4 < (x3.length : Int) then (if 0 ≤ x4 then (if (rdOf ByteArray.empty x3 x4).toList = ([] : List UInt8) then (estafetteref01_Domain.j1 k x3 x4 (rdOf ByteArray.empty x3 x4) true) else (if ((rdOf ByteArray.empty x3 x4).size : Int) > 63 then (estafetteref01_Domain.j1 k x3 x4 (rdOf ByteArray.empty x3 x4) true) else (if 0 < ((rdOf ByteArray.empty x3 x4).size : Int) then (if (bt (rdOf ByteArray.empty x3 x4) 0) = 45 then (estafetteref01_Domain.j1 k x3 x4 (rdOf ByteArray.empty x3 x4) true) else (if 0 ≤ (wrap64 (((rdOf ByteArray.empty x3 x4).size : Int) - 1)) then (if (wrap64 (((rdOf ByteArray.empty x3 x4).size : Int) - 1)) < ((rdOf ByteArray.empty x3 x4).size : Int) then (estafetteref01_Domain.j1 k x3 x4 (rdOf ByteArray.empty x3 x4) ((bt (rdOf ByteArray.empty x3 x4) (wrap64 (((rdOf ByteArray.empty x3 x4).size : Int) - 1))) == 45)) else (none)) else (none))) else (none)))) else (none)) else (some true)
def estafetteref01_Domain.j1 : Nat → List ByteArray → Int → ByteArray → Bool → Option (Bool)
  | 0, _, _, _, _ => none
  | k + 1, x3, x4, x5, x41 => if x41 = true then (some false) else (estafetteref01_Domain.l1 k x3 x4 x5 0)
def estafetteref01_Domain.l1 : Nat → List ByteArray → Int → ByteArray → Int → Option (Bool)
  | 0, _, _, _, _ => none
  | k + 1, x3, x4, x5, x6 => if x6 < (x5.size : Int) then (if 0 ≤ x6 then ((estafetteref01_letter.f (bt x5 x6)).bind fun t147 => (if t147 = true then (estafetteref01_Domain.l1 k x3 x4 x5 (wrap64 (x6 + 1))) else (if (bt x5 x6) = 45 then (estafetteref01_Domain.l1 k x3 x4 x5 (wrap64 (x6 + 1))) else (some false)))) else (none)) else (estafetteref01_Domain.l0 k x3 (wrap64 (x4 + 1)))
end
def estafetteref01_Domain.f (k : Nat) (a0 : ByteArray) : Option (Bool) := if (a0.size : Int) > 255 then (some false) else ((estafetteref01_Cut.f k a0 46).bind fun t143 => (estafetteref01_Domain.l0 k t143 0))
theorem estafetteref01_Domain.mono_l : ∀ k, (∀ y0 y1, LeO (estafetteref01_Domain.l0 k y0 y1) (estafetteref01_Domain.l0 (k + 1) y0 y1)) ∧ (∀ y0 y1 y2 y3, LeO (estafetteref01_Domain.j1 k y0 y1 y2 y3) (estafetteref01_Domain.j1 (k + 1) y0 y1 y2 y3)) ∧ (∀ y0 y1 y2 y3, LeO (estafetteref01_Domain.l1 k y0 y1 y2 y3) (estafetteref01_Domain.l1 (k + 1) y0 y1 y2 y3))
  | 0 => ⟨fun _ _ r h => by simp [estafetteref01_Domain.l0] at h, fun _ _ _ _ r h => by simp [estafetteref01_Domain.j1] at h, fun _ _ _ _ r h => by simp [estafetteref01_Domain.l1] at h⟩
  | k + 1 => by
    obtain ⟨ih0, ih1, ih2⟩ := estafetteref01_Domain.mono_l k
    refine ⟨?_, ?_, ?_⟩
    · intro y0 y1
      unfold estafetteref01_Domain.l0
      repeat' first
      | (with_reducible exact ih0 _ _)
      | (with_reducible exact ih1 _ _ _ _)
      | (with_reducible exact ih2 _ _ _ _)
      | (with_reducible exact estafetteref01_Cut.mono _ _ _)
      | (with_reducible exact LeO.refl _)
      | (with_reducible exact LeO.none _)
      | (with_reducible refine LeO.ite ?_ ?_)
      | (with_reducible refine LeO.bind ?_ (fun _ => ?_))
      | exact ih0 _ _
      | exact ih1 _ _ _ _
      | exact ih2 _ _ _ _
      | exact estafetteref01_Cut.mono _ _ _
      | exact LeO.none _
      | refine LeO.ite ?_ ?_
      | refine LeO.bind ?_ (fun _ => ?_)
    · intro y0 y1 y2 y3
      unfold estafetteref01_Domain.j1
      repeat' first
      | (with_reducible exact ih0 _ _)
      | (with_reducible exact ih1 _ _ _ _)
      | (with_reducible exact ih2 _ _ _ _)
      | (with_reducible exact estafetteref01_Cut.mono _ _ _)
      | (with_reducible exact LeO.refl _)
      | (with_reducible exact LeO.none _)
      | (with_reducible refine LeO.ite ?_ ?_)
      | (with_reducible refine LeO.bind ?_ (fun _ => ?_))
      | exact ih0 _ _
      | exact ih1 _ _ _ _
      | exact ih2 _ _ _ _
      | exact estafetteref01_Cut.mono _ _ _
      | exact LeO.none _
      | refine LeO.ite ?_ ?_
      | refine LeO.bind ?_ (fun _ => ?_)
    · intro y0 y1 y2 y3
      unfold estafetteref01_Domain.l1
      repeat' first
      | (with_reducible exact ih0 _ _)
      | (with_reducible exact ih1 _ _ _ _)
      | (with_reducible exact ih2 _ _ _ _)
      | (with_reducible exact estafetteref01_Cut.mono _ _ _)
      | (with_reducible exact LeO.refl _)
      | (with_reducible exact LeO.none _)
      | (with_reducible refine LeO.ite ?_ ?_)
      | (with_reducible refine LeO.bind ?_ (fun _ => ?_))
      | exact ih0 _ _
      | exact ih1 _ _ _ _
      | exact ih2 _ _ _ _
      | exact estafetteref01_Cut.mono _ _ _
      | exact LeO.none _
      | refine LeO.ite ?_ ?_
      | refine LeO.bind ?_ (fun _ => ?_)
theorem estafetteref01_Domain.mono : ∀ a0 k, LeO (estafetteref01_Domain.f k a0) (estafetteref01_Domain.f (k + 1) a0) := by
  intro a0 k
  obtain ⟨ih0, ih1, ih2⟩ := estafetteref01_Domain.mono_l k
  unfold estafetteref01_Domain.f
  repeat' first
      | (with_reducible exact ih0 _ _)
      | (with_reducible exact ih1 _ _ _ _)
      | (with_reducible exact ih2 _ _ _ _)
      | (with_reducible exact estafetteref01_Cut.mono _ _ _)
      | (with_reducible exact LeO.refl _)
      | (with_reducible exact LeO.none _)
      | (with_reducible refine LeO.ite ?_ ?_)
      | (with_reducible refine LeO.bind ?_ (fun _ => ?_))
      | exact ih0 _ _
      | exact ih1 _ _ _ _
      | exact ih2 _ _ _ _
      | exact estafetteref01_Cut.mono _ _ _
      | exact LeO.none _
      | refine LeO.ite ?_ ?_
      | refine LeO.bind ?_ (fun _ => ?_)
set_option maxHeartbeats 8000000 in
set_option maxRecDepth 100000 in
theorem estafetteref01_Domain.calls (k : Nat) (a0 : ByteArray) (r : Bool) (w : World) (h : estafetteref01_Domain.f k a0 = some r) :
    Calls Tryd.prog 24 #[.string a0] w fun e w' => e = .returned (.bool r) ∧ Below w.heap.size w w' := by
  have HB := Aside0.mk (Below.refl w.heap.size w)
  have H : (if (a0.size : Int) > 255 then (some false) else ((estafetteref01_Cut.f k a0 46).bind fun t143 => (estafetteref01_Domain.l0 k t143 0))) = some r := h
  clear h
  by_cases c2 : (a0.size : Int) > 255
  · rw [if_pos c2] at H
    have c2b0 : decide (255 < (a0.size : Int)) = true := decide_eq_true c2
    have c2b1 : decide (255 < a0.size) = true := decide_eq_true (by omega)
    clear c2
    obtain rfl := Option.some.inj H
    go_enter Tryd.func24, Tryd.ntmps24
    go_wp2
    go_ret
    exact ⟨by first | rfl | (simp [errW_none, errW_some] <;> rfl) | (simp [*, errW_none, errW_some] <;> rfl), by repeat (first | (with_reducible first | exact HB.out | apply below_alloc | apply pw_below_drewN | apply below_drew1) | exact HB.out)⟩
  · rw [if_neg c2] at H
    have c2b0 : decide (255 < (a0.size : Int)) = false := decide_eq_false c2
    have c2b1 : decide (255 < a0.size) = false := decide_eq_false (by omega)
    clear c2
    replace H := Option.bind_eq_some_iff.mp H
    obtain ⟨t143, A30, H⟩ := H
    replace H : (estafetteref01_Domain.l0 k t143 0) = some r := H
    have A3 := Aside0.mk A30
    clear A30
    have H' := Aside0.mk H
    clear H
    go_enter Tryd.func24, Tryd.ntmps24
    go_wp2_with (first | ((with_reducible refine gate_callee (f := 27) rfl ?_); refine goesL_ (some 11) rfl rfl Tryd.func27 (by kernel_rfl) rfl #[.string a0, .int .u8 46] rfl (by (try simp only [List.map_toArray, List.map_cons, List.map_nil]); first | done | rfl | (simp only [List.length_drop, List.length_take]; rfl)) ?_; (with_reducible refine (estafetteref01_Cut.calls k a0 46 t143 _ A3.out).mono ?_); rintro e w4 ⟨v144, rfl, ho0, hb⟩; refine ⟨_, rfl, ?_⟩; have n0_ := Aside0.mk (Kd.R_lower ho0 (below_size (by repeat (first | (with_reducible first | exact HB.out | apply below_alloc | apply pw_below_drewN | apply below_drew1) | exact HB.out)))); have n1_ := Aside0.mk (below_step (by repeat (first | (with_reducible first | exact HB.out | apply below_alloc | apply pw_below_drewN | apply below_drew1) | exact HB.out)) hb); clear HB; have HO145 := n0_; have HB := n1_; clear n0_ n1_; (try clear hb); (try clear hb2); (try clear hk); (try clear hi); (try clear ho0)))
    go_loopg [4] k (fun kq v4 w' => ∃ (x4_1 : Int), v4 = .int .i64 x4_1 ∧ Aside0 (estafetteref01_Domain.l0 kq t143 x4_1 = some r) ∧ Aside0 (kq ≤ k) ∧ Aside0 (Kd.R Kd.string 9 w' w.heap.size (fun _ => True) v144 t143) ∧ Aside0 (Below w.heap.size w w'))
    case atStart => exact ⟨(0), (by first | rfl | (simp; done) | (simp [*]; done)), H', ⟨Nat.le_refl _⟩, ⟨by (with_reducible repeat (first | apply Kd.R_alloc | apply Kd.R_drewN | apply Kd.R_drew)); exact HO145.out⟩, ⟨by repeat (first | (with_reducible first | exact HB.out | apply below_alloc | apply pw_below_drewN | apply below_drew1) | exact HB.out)⟩⟩
    case round =>
      clear H'
      try clear c2
      try clear c2b0
      try clear c2b1
      try clear p2
      obtain ⟨x4_1, rfl, HA, HK1, HO_3, HB⟩ := hrel
      cases gk with
      | zero => exact absurd HA.out (by simp [estafetteref01_Domain.l0])
      | succ k1 =>
        have H := HA.out
        clear HA
        simp only [estafetteref01_Domain.l0] at H
        by_cases c5 : x4_1 < (t143.length : Int)
        · rw [if_pos c5] at H
          have c5b0 : decide (x4_1 < (t143.length : Int)) = true := decide_eq_true c5
          clear c5
          by_cases c6 : 0 ≤ x4_1
          · rw [if_pos c6] at H
            have c6b0 : decide (0 ≤ x4_1) = true := decide_eq_true c6
            clear c6
            have HC7 := Aside0.mk H
            clear H
            obtain ⟨Ao8, co8, eo8⟩ := Kd.R_slice HO_3.out
            subst eo8
            have p146 : 0 ≤ (x4_1 : Int) := of_decide_eq_true (by first | (with_reducible assumption) | assumption)
            have q146 : x4_1 < (t143.length : Int) := of_decide_eq_true (by first | (with_reducible assumption) | assumption)
            obtain ⟨ad146, e146, hx146_0⟩ := Kd.at_string (Kd.R_reads' HO_3.out).2.2 x4_1 p146 q146
            cases e146
            replace p146 := eq_true p146
            replace q146 := eq_true q146
            go_upto_region 8 with (fail)
            go_cut [41] (fun v41 wc => ∃ (kq : Nat) (x41_6 : Bool), v41 = .bool x41_6 ∧ Aside0 (estafetteref01_Domain.j1 kq t143 x4_1 (rdOf ByteArray.empty t143 x4_1) x41_6 = some r) ∧ Aside0 (kq ≤ k1) ∧ Aside0 (Kd.R Kd.string 9 wc w.heap.size (fun _ => True) (.slice (some ad146) t143.length co8) t143) ∧ Aside0 (Below w.heap.size w wc))
            case first =>
              have H := HC7.out
              clear HC7
              by_cases c9 : (rdOf ByteArray.empty t143 x4_1).toList = ([] : List UInt8)
              · rw [if_pos c9] at H
                have c9b0 : ((rdOf ByteArray.empty t143 x4_1).toList == ([] : List UInt8)) = true := beq_iff_eq.mpr c9
                have c9b1 : ((rdOf ByteArray.empty t143 x4_1).toList != ([] : List UInt8)) = false := bne_eq_false_iff_eq.mpr c9
                clear c9
                (first | rw [c9b0] | (simp only [i64_w, i32_w]; rw [c9b0]) | skip)
                have H' := Aside0.mk H
                clear H
                go_wp2
                go_meet
                case rel => exact ⟨_, (true), (by first | rfl | (simp; done) | (simp [*]; done)), H', ⟨by have := HK1.out; first | omega | exact Nat.le_refl _⟩, ⟨by (with_reducible repeat (first | apply Kd.R_alloc | apply Kd.R_drewN | apply Kd.R_drew)); exact HO_3.out⟩, ⟨by repeat (first | (with_reducible first | exact HB.out | apply below_alloc | apply pw_below_drewN | apply below_drew1) | exact HB.out)⟩⟩
              · rw [if_neg c9] at H
                have c9b0 : ((rdOf ByteArray.empty t143 x4_1).toList == ([] : List UInt8)) = false := beq_eq_false_iff_ne.mpr c9
                have c9b1 : ((rdOf ByteArray.empty t143 x4_1).toList != ([] : List UInt8)) = true := bne_iff_ne.mpr c9
                (first | rw [c9b0] | (simp only [i64_w, i32_w]; rw [c9b0]) | skip)
                by_cases c10 : ((rdOf ByteArray.empty t143 x4_1).size : Int) > 63
                · rw [if_pos c10] at H
                  have c10b0 : decide (63 < ((rdOf ByteArray.empty t143 x4_1).size : Int)) = true := decide_eq_true c10
                  have c10b1 : decide (63 < (rdOf ByteArray.empty t143 x4_1).size) = true := decide_eq_true (by omega)
                  clear c10
                  have H' := Aside0.mk H
                  clear H
                  go_wp2
                  go_meet
                  case rel => exact ⟨_, (true), (by first | rfl | (simp; done) | (simp [*]; done)), H', ⟨by have := HK1.out; first | omega | exact Nat.le_refl _⟩, ⟨by (with_reducible repeat (first | apply Kd.R_alloc | apply Kd.R_drewN | apply Kd.R_drew)); exact HO_3.out⟩, ⟨by repeat (first | (with_reducible first | exact HB.out | apply below_alloc | apply pw_below_drewN | apply below_drew1) | exact HB.out)⟩⟩
                · rw [if_neg c10] at H
                  have c10b0 : decide (63 < ((rdOf ByteArray.empty t143 x4_1).size : Int)) = false := decide_eq_false c10
                  have c10b1 : decide (63 < (rdOf ByteArray.empty t143 x4_1).size) = false := decide_eq_false (by omega)
                  clear c10
                  by_cases c11 : 0 < ((rdOf ByteArray.empty t143 x4_1).size : Int)
                  · rw [if_pos c11] at H
                    have c11b0 : decide (0 < ((rdOf ByteArray.empty t143 x4_1).size : Int)) = true := decide_eq_true c11
                    have c11b1 : decide (0 < (rdOf ByteArray.empty t143 x4_1).size) = true := decide_eq_true (by omega)
                    clear c11
                    by_cases c13 : (bt (rdOf ByteArray.empty t143 x4_1) 0) = 45
                    · rw [if_pos c13] at H
                      have c13b0 : ((bt (rdOf ByteArray.empty t143 x4_1) 0) == 45) = true := beq_iff_eq.mpr c13
                      have c13b1 : ((bt (rdOf ByteArray.empty t143 x4_1) 0) != 45) = false := bne_eq_false_iff_eq.mpr c13
                      clear c13
                      have H' := Aside0.mk H
                      clear H
                      have p12 : 0 ≤ (0 : Int) := (by omega)
                      have q12 : 0 < (rdOf ByteArray.empty t143 x4_1).size := (by have : (0 : Int) < ((rdOf ByteArray.empty t143 x4_1).size : Int) := of_decide_eq_true (by first | (with_reducible assumption) | assumption); omega)
                      have hx12 : ∀ h : 0 < (rdOf ByteArray.empty t143 x4_1).size, (((rdOf ByteArray.empty t143 x4_1)[0]'h).toNat : Int) = bt (rdOf ByteArray.empty t143 x4_1) 0 := bt_at (rdOf ByteArray.empty t143 x4_1) 0
                      clear p12
                      have qi12 : (0 < ((rdOf ByteArray.empty t143 x4_1).size : Int)) = True := eq_true (of_decide_eq_true (by first | (with_reducible assumption) | assumption))
                      replace q12 := eq_true q12
                      go_wp2
                      go_meet
                      case rel => exact ⟨_, (true), (by first | rfl | (simp; done) | (simp [*]; done)), H', ⟨by have := HK1.out; first | omega | exact Nat.le_refl _⟩, ⟨by (with_reducible repeat (first | apply Kd.R_alloc | apply Kd.R_drewN | apply Kd.R_drew)); exact HO_3.out⟩, ⟨by repeat (first | (with_reducible first | exact HB.out | apply below_alloc | apply pw_below_drewN | apply below_drew1) | exact HB.out)⟩⟩
                    · rw [if_neg c13] at H
                      have c13b0 : ((bt (rdOf ByteArray.empty t143 x4_1) 0) == 45) = false := beq_eq_false_iff_ne.mpr c13
                      have c13b1 : ((bt (rdOf ByteArray.empty t143 x4_1) 0) != 45) = true := bne_iff_ne.mpr c13
                      obtain ⟨ji14, hji14⟩ : ∃ j_ : Int, (wrap64 (((rdOf ByteArray.empty t143 x4_1).size : Int) - 1)) = j_ := ⟨_, rfl⟩
                      replace H : (if 0 ≤ (ji14) then (if (ji14) < ((rdOf ByteArray.empty t143 x4_1).size : Int) then (estafetteref01_Domain.j1 k1 t143 x4_1 (rdOf ByteArray.empty t143 x4_1) ((bt (rdOf ByteArray.empty t143 x4_1) (ji14)) == 45)) else (none)) else (none)) = some r := by first | (rw [hji14] at H; exact H) | (simp only [hji14] at H ⊢; exact H)
                      have hji14w : (IntKind.i64.wrap (((rdOf ByteArray.empty t143 x4_1).size : Int) - 1)) = ji14 := (i64_w _).trans hji14
                      by_cases c15 : 0 ≤ (ji14)
                      · rw [if_pos c15] at H
                        have c15b0 : decide (0 ≤ (ji14)) = true := decide_eq_true c15
                        clear c15
                        by_cases c16 : (ji14) < ((rdOf ByteArray.empty t143 x4_1).size : Int)
                        · rw [if_pos c16] at H
                          have c16b0 : decide ((ji14) < ((rdOf ByteArray.empty t143 x4_1).size : Int)) = true := decide_eq_true c16
                          clear c16
                          have H' := Aside0.mk H
                          clear H
                          have p12 : 0 ≤ (0 : Int) := (by omega)
                          have q12 : 0 < (rdOf ByteArray.empty t143 x4_1).size := (by have : (0 : Int) < ((rdOf ByteArray.empty t143 x4_1).size : Int) := of_decide_eq_true (by first | (with_reducible assumption) | assumption); omega)
                          have hx12 : ∀ h : 0 < (rdOf ByteArray.empty t143 x4_1).size, (((rdOf ByteArray.empty t143 x4_1)[0]'h).toNat : Int) = bt (rdOf ByteArray.empty t143 x4_1) 0 := bt_at (rdOf ByteArray.empty t143 x4_1) 0
                          clear p12
                          have qi12 : (0 < ((rdOf ByteArray.empty t143 x4_1).size : Int)) = True := eq_true (of_decide_eq_true (by first | (with_reducible assumption) | assumption))
                          replace q12 := eq_true q12
                          have p17 : 0 ≤ ((ji14) : Int) := of_decide_eq_true (by first | (with_reducible assumption) | assumption)
                          have q17 : (ji14) < ((rdOf ByteArray.empty t143 x4_1).size : Int) := of_decide_eq_true (by first | (with_reducible assumption) | assumption)
                          have hx17 := bt_at (rdOf ByteArray.empty t143 x4_1) (ji14)
                          replace p17 := eq_true p17
                          replace q17 := eq_true q17
                          go_wp2
                          go_meet
                          case rel => exact ⟨_, (((bt (rdOf ByteArray.empty t143 x4_1) (ji14)) == 45)), (by first | rfl | (simp; done) | (simp only [← hji14] <;> (first | rfl | simp)) | (simp [*]; done)), H', ⟨by have := HK1.out; first | omega | exact Nat.le_refl _⟩, ⟨by (with_reducible repeat (first | apply Kd.R_alloc | apply Kd.R_drewN | apply Kd.R_drew)); exact HO_3.out⟩, ⟨by repeat (first | (with_reducible first | exact HB.out | apply below_alloc | apply pw_below_drewN | apply below_drew1) | exact HB.out)⟩⟩
                        · rw [if_neg c16] at H
                          exact absurd H (by simp)
                      · rw [if_neg c15] at H
                        exact absurd H (by simp)
                  · rw [if_neg c11] at H
                    exact absurd H (by simp)
            case rest =>
              clear HC7
              try clear c1
              try clear p1
              try clear q1
              try clear hx1
              try clear qi1
              try clear c2
              try clear c2b0
              try clear c2b1
              try clear p2
              try clear c5
              try clear c5b0
              try clear c6
              try clear c6b0
              try clear p6
              try clear c9
              try clear c9b0
              try clear c9b1
              try clear c10
              try clear c10b0
              try clear c10b1
              try clear c11
              try clear c11b0
              try clear c11b1
              try clear p12
              try clear q12
              try clear hx12
              try clear qi12
              try clear c13
              try clear c13b0
              try clear c13b1
              try clear p14
              try clear q14
              try clear hx14
              try clear c15
              try clear c15b0
              try clear c16
              try clear c16b0
              try clear p17
              try clear q17
              try clear hx17
              try clear hx146_0
              try clear p12
              try clear p146
              try clear p17
              try clear p2
              try clear q12
              try clear q146
              try clear q17
              obtain ⟨kq, x41_6, rfl, HA, HJ6, HO_3, HB⟩ := hcut
              cases kq with
              | zero => exact absurd HA.out (by simp [estafetteref01_Domain.j1])
              | succ kj6 =>
                have H := HA.out
                clear HA
                simp only [estafetteref01_Domain.j1] at H
                by_cases c18 : x41_6 = true
                · subst c18
                  have H1 : (some false) = some r := by rw [if_pos rfl] at H; exact H
                  clear H
                  have H := H1
                  clear H1
                  obtain rfl := Option.some.inj H
                  go_wp2
                  go_ret
                  exact ⟨by first | rfl | (simp [errW_none, errW_some] <;> rfl) | (simp [*, errW_none, errW_some] <;> rfl), by repeat (first | (with_reducible first | exact HB.out | apply below_alloc | apply pw_below_drewN | apply below_drew1) | exact HB.out)⟩
                · replace c18 := Bool.eq_false_iff.mpr c18
                  subst c18
                  have H1 : (estafetteref01_Domain.l1 kj6 t143 x4_1 (rdOf ByteArray.empty t143 x4_1) 0) = some r := by rw [if_neg (show ¬ (false = true) by decide)] at H; exact H
                  clear H
                  have H := H1
                  clear H1
                  have H' := Aside0.mk H
                  clear H
                  go_wp2
                  go_loopg [6] kj6 (fun kq v6 w' => ∃ (x6_3 : Int), v6 = .int .i64 x6_3 ∧ Aside0 (estafetteref01_Domain.l1 kq t143 x4_1 (rdOf ByteArray.empty t143 x4_1) x6_3 = some r) ∧ Aside0 (kq ≤ kj6) ∧ Aside0 (Kd.R Kd.string 9 w' w.heap.size (fun _ => True) (.slice (some ad146) t143.length co8) t143) ∧ Aside0 (Below w.heap.size w w'))
                  case atStart => exact ⟨(0), (by first | rfl | (simp; done) | (simp [*]; done)), H', ⟨Nat.le_refl _⟩, ⟨by (with_reducible repeat (first | apply Kd.R_alloc | apply Kd.R_drewN | apply Kd.R_drew)); exact HO_3.out⟩, ⟨by repeat (first | (with_reducible first | exact HB.out | apply below_alloc | apply pw_below_drewN | apply below_drew1) | exact HB.out)⟩⟩
                  case round =>
                    clear H'
                    try clear c1
                    try clear p1
                    try clear q1
                    try clear hx1
                    try clear qi1
                    try clear c2
                    try clear c2b0
                    try clear c2b1
                    try clear p2
                    try clear c5
                    try clear c5b0
                    try clear c6
                    try clear c6b0
                    try clear p6
                    try clear c9
                    try clear c9b0
                    try clear c9b1
                    try clear c10
                    try clear c10b0
                    try clear c10b1
                    try clear c11
                    try clear c11b0
                    try clear c11b1
                    try clear p12
                    try clear q12
                    try clear hx12
                    try clear qi12
                    try clear c13
                    try clear c13b0
                    try clear c13b1
                    try clear p14
                    try clear q14
                    try clear hx14
                    try clear c15
                    try clear c15b0
                    try clear c16
                    try clear c16b0
                    try clear p17
                    try clear q17
                    try clear hx17
                    try clear c18
                    try clear hx146_0
                    try clear p1
                    try clear p12
                    try clear p14
                    try clear p146
                    try clear p17
                    try clear p2
                    try clear p6
                    try clear q1
                    try clear q12
                    try clear q14
                    try clear q146
                    try clear q17
                    obtain ⟨x6_3, rfl, HA, HK3, HO_3, HB⟩ := hrel
                    cases gk with
                    | zero => exact absurd HA.out (by simp [estafetteref01_Domain.l1])
                    | succ k3 =>
                      have H := HA.out
                      clear HA
                      simp only [estafetteref01_Domain.l1] at H
                      by_cases c19 : x6_3 < ((rdOf ByteArray.empty t143 x4_1).size : Int)
                      · rw [if_pos c19] at H
                        have c19b0 : decide (x6_3 < ((rdOf ByteArray.empty t143 x4_1).size : Int)) = true := decide_eq_true c19
                        clear c19
                        by_cases c20 : 0 ≤ x6_3
                        · rw [if_pos c20] at H
                          have c20b0 : decide (0 ≤ x6_3) = true := decide_eq_true c20
                          clear c20
                          replace H := Option.bind_eq_some_iff.mp H
                          obtain ⟨t147, A220, H⟩ := H
                          replace H : (if t147 = true then (estafetteref01_Domain.l1 k3 t143 x4_1 (rdOf ByteArray.empty t143 x4_1) (wrap64 (x6_3 + 1))) else (if (bt (rdOf ByteArray.empty t143 x4_1) x6_3) = 45 then (estafetteref01_Domain.l1 k3 t143 x4_1 (rdOf ByteArray.empty t143 x4_1) (wrap64 (x6_3 + 1))) else (some false))) = some r := H
                          have A22 := Aside0.mk A220
                          clear A220
                          by_cases c23 : t147 = true
                          · subst c23
                            have H1 : (estafetteref01_Domain.l1 k3 t143 x4_1 (rdOf ByteArray.empty t143 x4_1) (wrap64 (x6_3 + 1))) = some r := by rw [if_pos rfl] at H; exact H
                            clear H
                            have H := H1
                            clear H1
                            have H' := Aside0.mk H
                            clear H
                            have p21 : 0 ≤ (x6_3 : Int) := of_decide_eq_true (by first | (with_reducible assumption) | assumption)
                            have q21 : x6_3 < ((rdOf ByteArray.empty t143 x4_1).size : Int) := of_decide_eq_true (by first | (with_reducible assumption) | assumption)
                            have hx21 := bt_at (rdOf ByteArray.empty t143 x4_1) x6_3
                            replace p21 := eq_true p21
                            replace q21 := eq_true q21
                            go_wp2_with (first | ((with_reducible refine gate_callee (f := 28) rfl ?_); refine goesL_ (some 51) rfl rfl Tryd.func28 (by kernel_rfl) rfl #[.int .u8 (bt (rdOf ByteArray.empty t143 x4_1) x6_3)] rfl (by (try simp only [List.map_toArray, List.map_cons, List.map_nil]); first | done | rfl | (simp only [List.length_drop, List.length_take]; rfl)) ?_; (with_reducible refine (estafetteref01_letter.calls (bt (rdOf ByteArray.empty t143 x4_1) x6_3) true _ A22.out).mono ?_); rintro e w' ⟨rfl, ⟨nd, rfl⟩⟩; refine ⟨_, rfl, ?_⟩))
                            go_roundg k3
                            case measure => have := HK1.out; have := HJ6.out; have := HK3.out; omega
                            case rel => exact ⟨(wrap64 (x6_3 + 1)), (by first | rfl | (simp; done) | (simp [*]; done)), H', ⟨by have := HK1.out; have := HJ6.out; have := HK3.out; omega⟩, ⟨by (with_reducible repeat (first | apply Kd.R_alloc | apply Kd.R_drewN | apply Kd.R_drew)); exact HO_3.out⟩, ⟨by repeat (first | (with_reducible first | exact HB.out | apply below_alloc | apply pw_below_drewN | apply below_drew1) | exact HB.out)⟩⟩
                          · replace c23 := Bool.eq_false_iff.mpr c23
                            subst c23
                            have H1 : (if (bt (rdOf ByteArray.empty t143 x4_1) x6_3) = 45 then (estafetteref01_Domain.l1 k3 t143 x4_1 (rdOf ByteArray.empty t143 x4_1) (wrap64 (x6_3 + 1))) else (some false)) = some r := by rw [if_neg (show ¬ (false = true) by decide)] at H; exact H
                            clear H
                            have H := H1
                            clear H1
                            by_cases c25 : (bt (rdOf ByteArray.empty t143 x4_1) x6_3) = 45
                            · rw [if_pos c25] at H
                              have c25b0 : ((bt (rdOf ByteArray.empty t143 x4_1) x6_3) == 45) = true := beq_iff_eq.mpr c25
                              have c25b1 : ((bt (rdOf ByteArray.empty t143 x4_1) x6_3) != 45) = false := bne_eq_false_iff_eq.mpr c25
                              clear c25
                              have H' := Aside0.mk H
                              clear H
                              have p21 : 0 ≤ (x6_3 : Int) := of_decide_eq_true (by first | (with_reducible assumption) | assumption)
                              have q21 : x6_3 < ((rdOf ByteArray.empty t143 x4_1).size : Int) := of_decide_eq_true (by first | (with_reducible assumption) | assumption)
                              have hx21 := bt_at (rdOf ByteArray.empty t143 x4_1) x6_3
                              replace p21 := eq_true p21
                              replace q21 := eq_true q21
                              go_wp2_with (first | ((with_reducible refine gate_callee (f := 28) rfl ?_); refine goesL_ (some 51) rfl rfl Tryd.func28 (by kernel_rfl) rfl #[.int .u8 (bt (rdOf ByteArray.empty t143 x4_1) x6_3)] rfl (by (try simp only [List.map_toArray, List.map_cons, List.map_nil]); first | done | rfl | (simp only [List.length_drop, List.length_take]; rfl)) ?_; (with_reducible refine (estafetteref01_letter.calls (bt (rdOf ByteArray.empty t143 x4_1) x6_3) false _ A22.out).mono ?_); rintro e w' ⟨rfl, ⟨nd, rfl⟩⟩; refine ⟨_, rfl, ?_⟩; have p24 : 0 ≤ (x6_3 : Int) := of_decide_eq_true (by first | (with_reducible assumption) | assumption); have q24 : x6_3 < ((rdOf ByteArray.empty t143 x4_1).size : Int) := of_decide_eq_true (by first | (with_reducible assumption) | assumption); have hx24 := bt_at (rdOf ByteArray.empty t143 x4_1) x6_3; replace p24 := eq_true p24; replace q24 := eq_true q24))
                              go_roundg k3
                              case measure => have := HK1.out; have := HJ6.out; have := HK3.out; omega
                              case rel => exact ⟨(wrap64 (x6_3 + 1)), (by first | rfl | (simp; done) | (simp [*]; done)), H', ⟨by have := HK1.out; have := HJ6.out; have := HK3.out; omega⟩, ⟨by (with_reducible repeat (first | apply Kd.R_alloc | apply Kd.R_drewN | apply Kd.R_drew)); exact HO_3.out⟩, ⟨by repeat (first | (with_reducible first | exact HB.out | apply below_alloc | apply pw_below_drewN | apply below_drew1) | exact HB.out)⟩⟩
                            · rw [if_neg c25] at H
                              have c25b0 : ((bt (rdOf ByteArray.empty t143 x4_1) x6_3) == 45) = false := beq_eq_false_iff_ne.mpr c25
                              have c25b1 : ((bt (rdOf ByteArray.empty t143 x4_1) x6_3) != 45) = true := bne_iff_ne.mpr c25
                              obtain rfl := Option.some.inj H
                              have p21 : 0 ≤ (x6_3 : Int) := of_decide_eq_true (by first | (with_reducible assumption) | assumption)
                              have q21 : x6_3 < ((rdOf ByteArray.empty t143 x4_1).size : Int) := of_decide_eq_true (by first | (with_reducible assumption) | assumption)
                              have hx21 := bt_at (rdOf ByteArray.empty t143 x4_1) x6_3
                              replace p21 := eq_true p21
                              replace q21 := eq_true q21
                              go_wp2_with (first | ((with_reducible refine gate_callee (f := 28) rfl ?_); refine goesL_ (some 51) rfl rfl Tryd.func28 (by kernel_rfl) rfl #[.int .u8 (bt (rdOf ByteArray.empty t143 x4_1) x6_3)] rfl (by (try simp only [List.map_toArray, List.map_cons, List.map_nil]); first | done | rfl | (simp only [List.length_drop, List.length_take]; rfl)) ?_; (with_reducible refine (estafetteref01_letter.calls (bt (rdOf ByteArray.empty t143 x4_1) x6_3) false _ A22.out).mono ?_); rintro e w' ⟨rfl, ⟨nd, rfl⟩⟩; refine ⟨_, rfl, ?_⟩; have p24 : 0 ≤ (x6_3 : Int) := of_decide_eq_true (by first | (with_reducible assumption) | assumption); have q24 : x6_3 < ((rdOf ByteArray.empty t143 x4_1).size : Int) := of_decide_eq_true (by first | (with_reducible assumption) | assumption); have hx24 := bt_at (rdOf ByteArray.empty t143 x4_1) x6_3; replace p24 := eq_true p24; replace q24 := eq_true q24))
                              go_ret
                              exact ⟨by first | rfl | (simp [errW_none, errW_some] <;> rfl) | (simp [*, errW_none, errW_some] <;> rfl), by repeat (first | (with_reducible first | exact HB.out | apply below_alloc | apply pw_below_drewN | apply below_drew1) | exact HB.out)⟩
                        · rw [if_neg c20] at H
                          exact absurd H (by simp)
                      · rw [if_neg c19] at H
                        have c19b0 : decide (x6_3 < ((rdOf ByteArray.empty t143 x4_1).size : Int)) = false := decide_eq_false c19
                        clear c19
                        have H' := Aside0.mk H
                        clear H
                        go_wp2
                        go_roundg k3
                        case measure => have := HK1.out; have := HJ6.out; have := HK3.out; omega
                        case rel => exact ⟨(wrap64 (x4_1 + 1)), (by first | rfl | (simp; done) | (simp [*]; done)), H', ⟨by have := HK1.out; have := HJ6.out; have := HK3.out; omega⟩, ⟨by (with_reducible repeat (first | apply Kd.R_alloc | apply Kd.R_drewN | apply Kd.R_drew)); exact HO_3.out⟩, ⟨by repeat (first | (with_reducible first | exact HB.out | apply below_alloc | apply pw_below_drewN | apply below_drew1) | exact HB.out)⟩⟩
          · rw [if_neg c6] at H
            exact absurd H (by simp)
        · rw [if_neg c5] at H
          have c5b0 : decide (x4_1 < (t143.length : Int)) = false := decide_eq_false c5
          clear c5
          obtain rfl := Option.some.inj H
          obtain ⟨Ao26, co26, eo26⟩ := Kd.R_slice HO_3.out
          subst eo26
          go_wp2
          go_ret
          exact ⟨by first | rfl | (simp [errW_none, errW_some] <;> rfl) | (simp [*, errW_none, errW_some] <;> rfl), by repeat (first | (with_reducible first | exact HB.out | apply below_alloc | apply pw_below_drewN | apply below_drew1) | exact HB.out)⟩

end Go.Proofs.YtjkaicfakccmiaaDoor.PB
