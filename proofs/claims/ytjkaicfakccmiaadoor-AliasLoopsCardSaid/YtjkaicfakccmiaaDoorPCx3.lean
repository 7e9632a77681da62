/- For every input: what the functions below return, or the statement that this text proves. Written by a program of this claim.s author (a turned print). -/
import Derived.Test.YtjkaicfakccmiaaDoorPCx0
import Derived.Test.YtjkaicfakccmiaaDoorPCx1
namespace Go.Proofs.YtjkaicfakccmiaaDoor.PC
open Go.RowKit Go.Proofs.YtjkaicfakccmiaaDoorW.PrintWords Go.Proofs.YtjkaicfakccmiaaDoorW.PrintLast Go.Proofs.YtjkaicfakccmiaaDoorW.PrintMore
attribute [local go_sem] max2_int min2_int max_two min_two max_three min_three max_four min_four   -- for this text's walks alone
set_option linter.unusedVariables false
set_option linter.unusedSimpArgs false

/-! ### estafettelaw16_AliasLoops: function 3 -/
def estafettelaw16_AliasLoops.l0 : Nat → Int → Int → Int → List (S31) → Int → Option (Bool)
  | 0, _, _, _, _, _ => none
  | k + 1, x1, x5, x7, x167000, x167003 => if x7 < x5 then ((PB.estafettelaw16_name.f k x7 x5).bind fun t175 => ((PB.estafettelaw16_name.f k (wrap64 (x7 + 1)) x5).bind fun t176 => ((PB.estafettelaw16_name.f k (wrap64 (x7 + (wrap64 (x1)))) x5).bind fun t177 => ((PB.estafetteref01_Dec.f k x7).bind fun t178 => (if 1 + t178.size ≤ 9223372036854775807 then (if ((⟨#[116]⟩ : ByteArray) ++ t178).size + 2 ≤ 9223372036854775807 then (if x167000.length < 3518437208883 then (estafettelaw16_AliasLoops.l0 k x1 x5 (wrap64 (x7 + 1)) (x167000 ++ [(⟨t175, (([t176, t177, ((⟨#[116]⟩ : ByteArray) ++ t178) ++ (⟨#[64, 121]⟩ : ByteArray)] : List ByteArray))⟩ : S31)]) x167003) else (none)) else (none)) else (none)))))) else ((PB.estafettelaw16_name.f k (wrap64 (x1)) x5).bind fun t167 => ((Hand.alias_Expand.f k x167000 ([] : List (S96)) ([] : List (S98)) x167003 (([t167] : List ByteArray))).bind fun t171 => ((estafettelaw16_answers.f k).bind fun t174 => (if t174 = true then (some ((t171.length : Int) == x5)) else (some false)))))
def estafettelaw16_AliasLoops.f (k : Nat) (a0 : Int) (a1 : Int) : Option (Bool) := estafettelaw16_AliasLoops.l0 k a1 (wrap64 ((wrap64 (Int.tmod a0 40)) + 1)) 0 ([] : List (S31)) 0
theorem estafettelaw16_AliasLoops.mono_l : ∀ k, (∀ y0 y1 y2 y3 y4, LeO (estafettelaw16_AliasLoops.l0 k y0 y1 y2 y3 y4) (estafettelaw16_AliasLoops.l0 (k + 1) y0 y1 y2 y3 y4))
  | 0 => fun _ _ _ _ _ r h => by simp [estafettelaw16_AliasLoops.l0] at h
  | k + 1 => by
    have ih0 := estafettelaw16_AliasLoops.mono_l k
    · intro y0 y1 y2 y3 y4
      unfold estafettelaw16_AliasLoops.l0
      repeat' first
      | (with_reducible exact ih0 _ _ _ _ _)
      | (with_reducible exact Hand.alias_Expand.mono _ _ _ _ _ _)
      | (with_reducible exact PB.estafettelaw16_name.mono _ _ _)
      | (with_reducible exact PB.estafetteref01_Dec.mono _ _)
      | (with_reducible exact estafettelaw16_answers.mono _)
      | (with_reducible exact LeO.refl _)
      | (with_reducible exact LeO.none _)
      | (with_reducible refine LeO.ite ?_ ?_)
      | (with_reducible refine LeO.bind ?_ (fun _ => ?_))
      | exact ih0 _ _ _ _ _
      | exact Hand.alias_Expand.mono _ _ _ _ _ _
      | exact PB.estafettelaw16_name.mono _ _ _
      | exact PB.estafetteref01_Dec.mono _ _
      | exact estafettelaw16_answers.mono _
      | exact LeO.none _
      | refine LeO.ite ?_ ?_
      | refine LeO.bind ?_ (fun _ => ?_)
theorem estafettelaw16_AliasLoops.mono : ∀ a0 a1 k, LeO (estafettelaw16_AliasLoops.f k a0 a1) (estafettelaw16_AliasLoops.f (k + 1) a0 a1) := by
  intro a0 a1 k
  have ih0 := estafettelaw16_AliasLoops.mono_l k
  unfold estafettelaw16_AliasLoops.f
  repeat' first
      | (with_reducible exact ih0 _ _ _ _ _)
      | (with_reducible exact Hand.alias_Expand.mono _ _ _ _ _ _)
      | (with_reducible exact PB.estafettelaw16_name.mono _ _ _)
      | (with_reducible exact PB.estafetteref01_Dec.mono _ _)
      | (with_reducible exact estafettelaw16_answers.mono _)
      | (with_reducible exact LeO.refl _)
      | (with_reducible exact LeO.none _)
      | (with_reducible refine LeO.ite ?_ ?_)
      | (with_reducible refine LeO.bind ?_ (fun _ => ?_))
      | exact ih0 _ _ _ _ _
      | exact Hand.alias_Expand.mono _ _ _ _ _ _
      | exact PB.estafettelaw16_name.mono _ _ _
      | exact PB.estafetteref01_Dec.mono _ _
      | exact estafettelaw16_answers.mono _
      | exact LeO.none _
      | refine LeO.ite ?_ ?_
      | refine LeO.bind ?_ (fun _ => ?_)
def estafettelaw16_AliasLoops.T6 : Bool × List (List Nat × List Nat) := (true, [([], []), ([0], [0]), ([], []), ([], []), ([2, 3], [2, 3]), ([], []), ([5], [5]), ([], []), ([6, 7, 4], [6, 7]), ([], []), ([], []), ([10], [10]), ([9, 11], [9, 11]), ([], []), ([12, 13, 8], [12, 13]), ([], []), ([15, 14], [15]), ([16], [16]), ([17], [17]), ([8, 14, 18], [8, 14, 18]), ([4, 19], [4, 19]), ([20], [20]), ([1, 21, 16], [1, 21]), ([0, 1, 2, 3, 4, 5, 6, 7, 8, 9, 10, 11, 12, 13, 14, 15, 16, 17, 18, 19, 20, 21, 22], []), ([23, 22, 22, 0, 1, 2, 3, 4, 5, 6, 7, 8, 9, 10, 11, 12, 13, 14, 15, 16, 17, 18, 19, 20, 21, 22], [22, 23])])
def estafettelaw16_AliasLoops.B6 : List Nat := [0, 1, 0, 0, 12, 0, 32, 0, 252, 0, 0, 1024, 3584, 0, 16380, 0, 65532, 131068, 262140, 524284, 1048572, 2097148, 4194303, 8388607, 16777215]
theorem estafettelaw16_AliasLoops.tab6 : rtab .any (opsOf Tryd.f3 6) = estafettelaw16_AliasLoops.T6 := by kernel_rfl
theorem estafettelaw16_AliasLoops.bits6 : waitsOk estafettelaw16_AliasLoops.T6.2 estafettelaw16_AliasLoops.B6 = true := by kernel_rfl
def estafettelaw16_AliasLoops.T7 : Bool × List (List Nat × List Nat) := (true, [([], []), ([], []), ([1], [1]), ([], []), ([2, 3], [2, 3]), ([4], [4]), ([0, 5, 4], [0, 5]), ([6, 6, 0, 1, 2, 3, 4, 5, 6], [6])])
def estafettelaw16_AliasLoops.B7 : List Nat := [0, 0, 2, 0, 14, 30, 63, 127]
theorem estafettelaw16_AliasLoops.tab7 : rtab .any (opsOf Tryd.f3 7) = estafettelaw16_AliasLoops.T7 := by kernel_rfl
theorem estafettelaw16_AliasLoops.bits7 : waitsOk estafettelaw16_AliasLoops.T7.2 estafettelaw16_AliasLoops.B7 = true := by kernel_rfl
set_option maxHeartbeats 8000000 in
set_option maxRecDepth 100000 in
theorem estafettelaw16_AliasLoops.calls (k : Nat) (a0 : Int) (a1 : Int) (r : Bool) (w : World) (h : estafettelaw16_AliasLoops.f k a0 a1 = some r) :
    Calls Tryd.prog 3 #[.int .u8 a0, .int .u8 a1] w fun e w' => e = .returned (.bool r) ∧ Below w.heap.size w w' := by
  have hu26 := Tryd.underlying26
  have hu31 := Tryd.underlying31
  have HB := Aside0.mk (Below.refl w.heap.size w)
  have H : (estafettelaw16_AliasLoops.l0 k a1 (wrap64 ((wrap64 (Int.tmod a0 40)) + 1)) 0 ([] : List (S31)) 0) = some r := h
  clear h
  have H' := Aside0.mk H
  clear H
  go_enter Tryd.func3, Tryd.ntmps3
  go_wp2_with (first | ((with_reducible refine gate_dst (N := 6) rfl ?_); (try (refine gate_guard (by rfl) ?_; dsimp only)); refine box_event ?hg (N := 6) ?hd (cs := #[.slice none 0 0, .slice none 0 0, .slice none 0 0, .int .i64 0]) (t := 26) ?hr ?_; (case hd => rfl); (case hg => rfl); (case hr => first | (go_simp; done) | (go_simp; rfl)); intro gb166 hg w3 hbox hb; have n0_ := Aside0.mk (below_step (by repeat (first | (with_reducible first | exact HB.out | apply below_alloc | apply pw_below_drewN | apply below_drew1) | exact HB.out)) hb); have n1_ := Aside0.mk (hbox); have n2_ := Aside0.mk ((by rw [hg]; exact (below_size (by repeat (first | (with_reducible first | exact HB.out | apply below_alloc | apply pw_below_drewN | apply below_drew1) | exact HB.out))) : w.heap.size ≤ gb166)); have n3_ := Aside0.mk ((by rw [hg]; exact (below_size (by repeat (first | (with_reducible first | exact HB.out | apply below_alloc | apply pw_below_drewN | apply below_drew1) | exact HB.out))) : w.heap.size ≤ gb166)); clear HB; have HB := n0_; have BK166 := n1_; have GW166 := n2_; have GE166 := n3_; clear n0_ n1_ n2_ n3_; clear hb hbox hg))
  go_loopg [7] k (fun kq v7 w' => ∃ (x7_1 : Int) (x167000_1 : List (S31)) (u167000 : Value), v7 = .int .i64 x7_1 ∧ Aside0 (estafettelaw16_AliasLoops.l0 kq a1 (wrap64 ((wrap64 (Int.tmod a0 40)) + 1)) x7_1 x167000_1 0 = some r) ∧ Aside0 (kq ≤ k) ∧ Aside0 (Kd.S k31 31 w' w.heap.size (fun _ => True) u167000 x167000_1) ∧ Aside0 (w'.heap[gb166]? = some (.cells #[u167000, (.slice none 0 0), (.slice none 0 0), .int .i64 0] 26 (0, 0))) ∧ Aside0 (Below w.heap.size w w'))
  case atStart => exact ⟨(0), (([] : List (S31))), (.slice none 0 0), (by first | rfl | (simp; done) | (simp [*]; done)), H', ⟨Nat.le_refl _⟩, ⟨by first | exact Kd.S_nil _ _ _ _ _ | exact Kd.N_nil _ _ _ _ _ | exact Kd.V_nil _ _ _ _ _ | exact Kd.Z_nil _ _ _ _ _ | exact Kd.R_nil _ _ _ _ _⟩, ⟨by (with_reducible repeat (first | refine blk_drewN ?_ _ | refine blk_drew ?_ | refine blk_alloc ?_ _)); exact BK166.out⟩, ⟨by repeat (first | (with_reducible first | exact HB.out | apply below_alloc | apply pw_below_drewN | apply below_drew1 | refine below_set ?_ GE166.out) | exact HB.out)⟩⟩
  case round =>
    clear H'
    try clear p2
    try clear c3
    obtain ⟨x7_1, x167000_1, u167000, rfl, HA, HK1, HO_167000, BK166, HB⟩ := hrel
    cases gk with
    | zero => exact absurd HA.out (by simp [estafettelaw16_AliasLoops.l0])
    | succ k1 =>
      have H := HA.out
      clear HA
      simp only [estafettelaw16_AliasLoops.l0] at H
      by_cases c4 : x7_1 < (wrap64 ((wrap64 (Int.tmod a0 40)) + 1))
      · rw [if_pos c4] at H
        have c4b0 : decide (x7_1 < (wrap64 ((wrap64 (Int.tmod a0 40)) + 1))) = true := decide_eq_true c4
        clear c4
        replace H := Option.bind_eq_some_iff.mp H
        obtain ⟨t175, A50, H⟩ := H
        replace H : ((PB.estafettelaw16_name.f k1 (wrap64 (x7_1 + 1)) (wrap64 ((wrap64 (Int.tmod a0 40)) + 1))).bind fun t176 => ((PB.estafettelaw16_name.f k1 (wrap64 (x7_1 + (wrap64 (a1)))) (wrap64 ((wrap64 (Int.tmod a0 40)) + 1))).bind fun t177 => ((PB.estafetteref01_Dec.f k1 x7_1).bind fun t178 => (if 1 + t178.size ≤ 9223372036854775807 then (if ((⟨#[116]⟩ : ByteArray) ++ t178).size + 2 ≤ 9223372036854775807 then (if x167000_1.length < 3518437208883 then (estafettelaw16_AliasLoops.l0 k1 a1 (wrap64 ((wrap64 (Int.tmod a0 40)) + 1)) (wrap64 (x7_1 + 1)) (x167000_1 ++ [(⟨t175, (([t176, t177, ((⟨#[116]⟩ : ByteArray) ++ t178) ++ (⟨#[64, 121]⟩ : ByteArray)] : List ByteArray))⟩ : S31)]) 0) else (none)) else (none)) else (none))))) = some r := H
        have A5 := Aside0.mk A50
        clear A50
        replace H := Option.bind_eq_some_iff.mp H
        obtain ⟨t176, A60, H⟩ := H
        replace H : ((PB.estafettelaw16_name.f k1 (wrap64 (x7_1 + (wrap64 (a1)))) (wrap64 ((wrap64 (Int.tmod a0 40)) + 1))).bind fun t177 => ((PB.estafetteref01_Dec.f k1 x7_1).bind fun t178 => (if 1 + t178.size ≤ 9223372036854775807 then (if ((⟨#[116]⟩ : ByteArray) ++ t178).size + 2 ≤ 9223372036854775807 then (if x167000_1.length < 3518437208883 then (estafettelaw16_AliasLoops.l0 k1 a1 (wrap64 ((wrap64 (Int.tmod a0 40)) + 1)) (wrap64 (x7_1 + 1)) (x167000_1 ++ [(⟨t175, (([t176, t177, ((⟨#[116]⟩ : ByteArray) ++ t178) ++ (⟨#[64, 121]⟩ : ByteArray)] : List ByteArray))⟩ : S31)]) 0) else (none)) else (none)) else (none)))) = some r := H
        have A6 := Aside0.mk A60
        clear A60
        replace H := Option.bind_eq_some_iff.mp H
        obtain ⟨t177, A70, H⟩ := H
        replace H : ((PB.estafetteref01_Dec.f k1 x7_1).bind fun t178 => (if 1 + t178.size ≤ 9223372036854775807 then (if ((⟨#[116]⟩ : ByteArray) ++ t178).size + 2 ≤ 9223372036854775807 then (if x167000_1.length < 3518437208883 then (estafettelaw16_AliasLoops.l0 k1 a1 (wrap64 ((wrap64 (Int.tmod a0 40)) + 1)) (wrap64 (x7_1 + 1)) (x167000_1 ++ [(⟨t175, (([t176, t177, ((⟨#[116]⟩ : ByteArray) ++ t178) ++ (⟨#[64, 121]⟩ : ByteArray)] : List ByteArray))⟩ : S31)]) 0) else (none)) else (none)) else (none))) = some r := H
        have A7 := Aside0.mk A70
        clear A70
        replace H := Option.bind_eq_some_iff.mp H
        obtain ⟨t178, A80, H⟩ := H
        replace H : (if 1 + t178.size ≤ 9223372036854775807 then (if ((⟨#[116]⟩ : ByteArray) ++ t178).size + 2 ≤ 9223372036854775807 then (if x167000_1.length < 3518437208883 then (estafettelaw16_AliasLoops.l0 k1 a1 (wrap64 ((wrap64 (Int.tmod a0 40)) + 1)) (wrap64 (x7_1 + 1)) (x167000_1 ++ [(⟨t175, (([t176, t177, ((⟨#[116]⟩ : ByteArray) ++ t178) ++ (⟨#[64, 121]⟩ : ByteArray)] : List ByteArray))⟩ : S31)]) 0) else (none)) else (none)) else (none)) = some r := H
        have A8 := Aside0.mk A80
        clear A80
        by_cases c9 : 1 + t178.size ≤ 9223372036854775807
        · rw [if_pos c9] at H
          have c9b0 := eq_true c9
          have c9b1 : decide (1 + t178.size ≤ 9223372036854775807) = true := decide_eq_true c9
          try have c9b2 : (9223372036854775807 < 1 + t178.size) = False := eq_false (Nat.not_lt.2 c9)
          by_cases c10 : ((⟨#[116]⟩ : ByteArray) ++ t178).size + 2 ≤ 9223372036854775807
          · rw [if_pos c10] at H
            have c10b0 := eq_true c10
            have c10b1 : decide (((⟨#[116]⟩ : ByteArray) ++ t178).size + 2 ≤ 9223372036854775807) = true := decide_eq_true c10
            try have c10b2 : (9223372036854775807 < ((⟨#[116]⟩ : ByteArray) ++ t178).size + 2) = False := eq_false (Nat.not_lt.2 c10)
            have c10z0 : (⟨#[116]⟩ : ByteArray).size = 1 := rfl
            (try (have c10p := c10; simp only [ByteArray.size_append, List.length_append, c10z0] at c10p))
            (try (have c10q := eq_false (Nat.not_lt.2 c10p)))
            obtain ⟨y179, hy179⟩ : ∃ y_ : List ByteArray, y_ = (([t176, t177, ((⟨#[116]⟩ : ByteArray) ++ t178) ++ (⟨#[64, 121]⟩ : ByteArray)] : List ByteArray)) := ⟨_, rfl⟩
            replace H : (if x167000_1.length < 3518437208883 then (estafettelaw16_AliasLoops.l0 k1 a1 (wrap64 ((wrap64 (Int.tmod a0 40)) + 1)) (wrap64 (x7_1 + 1)) (x167000_1 ++ [(⟨t175, y179⟩ : S31)]) 0) else (none)) = some r := by first | (rw [hy179]; with_reducible exact H) | (have H2_ := (Option.bind_some _ _).symm.trans H; rw [hy179]; with_reducible exact H2_) | (have H2_ := (Option.bind_some _ _).symm.trans H; with_reducible exact H2_) | with_reducible exact H | (rw [hy179]; exact H) | exact H
            have Ny179 := Aside0.mk hy179
            clear hy179
            by_cases c11 : x167000_1.length < 3518437208883
            · rw [if_pos c11] at H
              have LMc11 := Aside0.mk c11
              clear c11
              obtain ⟨y182, hy182⟩ : ∃ y_ : List (S31), y_ = (x167000_1 ++ [(⟨t175, y179⟩ : S31)]) := ⟨_, rfl⟩
              replace H : (estafettelaw16_AliasLoops.l0 k1 a1 (wrap64 ((wrap64 (Int.tmod a0 40)) + 1)) (wrap64 (x7_1 + 1)) y182 0) = some r := by first | (rw [hy182]; with_reducible exact H) | (have H2_ := (Option.bind_some _ _).symm.trans H; rw [hy182]; with_reducible exact H2_) | (have H2_ := (Option.bind_some _ _).symm.trans H; with_reducible exact H2_) | with_reducible exact H | (rw [hy182]; exact H) | exact H
              have Ny182 := Aside0.mk hy182
              clear hy182
              have H' := Aside0.mk H
              clear H
              try go_wp2
              have n0_ := Aside0.mk (Kd.S_drew HO_167000.out)
              have n1_ := Aside0.mk (blk_drew BK166.out)
              have n2_ := Aside0.mk (below_drew1 HB.out)
              clear HO_167000
              clear BK166
              clear HB
              have HO_167000 := n0_
              have BK166 := n1_
              have HB := n2_
              clear n0_ n1_ n2_
              refine start_ (n := 25) (S := fun w' => w'.cell? ⟨gb166, 0, none⟩ = some (u167000) ∧ w'.cell? ⟨gb166, 1, none⟩ = some (.slice none 0 0) ∧ w'.cell? ⟨gb166, 2, none⟩ = some (.slice none 0 0) ∧ w'.cell? ⟨gb166, 3, none⟩ = some (.int .i64 0)) (ds := [24]) #[false, false, false, false, false, false, false, false, false, false, false, false, false, false, false, false, false, false, false, false, false, false, false, false, false] (by kernel_rfl) rfl rfl ⟨(blk_cell BK166.out 0).trans rfl, (blk_cell BK166.out 1).trans rfl, (blk_cell BK166.out 2).trans rfl, (blk_cell BK166.out 3).trans rfl⟩ (fun hHeld => ?_); refine with_tabW estafettelaw16_AliasLoops.tab6 estafettelaw16_AliasLoops.bits6 (fun HT_ HW_ => ?_)
              generalize wr.drew = w12 at HO_167000 BK166 HB hHeld ⊢
              refine pure_ (i := 0) (N := some 18) (v := ?_) (a' := ?_) #[true, false, false, false, false, false, false, false, false, false, false, false, false, false, false, false, false, false, false, false, false, false, false, false, false] rfl rfl (any_of HT_.out (by kernel_rfl)) (fun _ _ _ h => h) (Or.inl ⟨by rfl, ?_⟩) ?_ ?_
              rotate_left
              · intro w'
                go_simp
                with_reducible rfl
              rotate_left
              · simp only [Act.put, List.setIfInBounds_toArray, List.set_cons_zero, List.set_cons_succ, i64_w, i32_w]
                rfl
              refine pure_ (i := 2) (N := some 20) (v := ?_) (a' := ?_) #[true, false, true, false, false, false, false, false, false, false, false, false, false, false, false, false, false, false, false, false, false, false, false, false, false] rfl rfl (any_of HT_.out (by kernel_rfl)) (fun _ _ _ h => h) (Or.inl ⟨by rfl, ?_⟩) ?_ ?_
              rotate_left
              · intro w'
                go_simp
                with_reducible rfl
              rotate_left
              · simp only [Act.put, List.setIfInBounds_toArray, List.set_cons_zero, List.set_cons_succ, i64_w, i32_w]
                rfl
              refine pure_ (i := 3) (N := some 21) (v := ?_) (a' := ?_) #[true, false, true, true, false, false, false, false, false, false, false, false, false, false, false, false, false, false, false, false, false, false, false, false, false] rfl rfl (any_of HT_.out (by kernel_rfl)) (fun _ _ _ h => h) (Or.inl ⟨by rfl, ?_⟩) ?_ ?_
              rotate_left
              · intro w'
                go_simp
                with_reducible rfl
              rotate_left
              · simp only [Act.put, List.setIfInBounds_toArray, List.set_cons_zero, List.set_cons_succ, i64_w, i32_w]
                rfl
              refine pure_ (i := 5) (N := some 23) (v := ?_) (a' := ?_) #[true, false, true, true, false, true, false, false, false, false, false, false, false, false, false, false, false, false, false, false, false, false, false, false, false] rfl rfl (any_of HT_.out (by kernel_rfl)) (fun _ _ _ h => h) (Or.inl ⟨by rfl, ?_⟩) ?_ ?_
              rotate_left
              · intro w'
                go_simp
                with_reducible rfl
              rotate_left
              · simp only [Act.put, List.setIfInBounds_toArray, List.set_cons_zero, List.set_cons_succ, i64_w, i32_w]
                rfl
              refine pure_ (i := 6) (N := some 24) (v := ?_) (a' := ?_) #[true, false, true, true, false, true, true, false, false, false, false, false, false, false, false, false, false, false, false, false, false, false, false, false, false] rfl rfl (any_of HT_.out (by kernel_rfl)) (fun _ _ _ h => h) (Or.inl ⟨by rfl, ?_⟩) ?_ ?_
              rotate_left
              · intro w'
                go_simp
                with_reducible rfl
              rotate_left
              · simp only [Act.put, List.setIfInBounds_toArray, List.set_cons_zero, List.set_cons_succ, i64_w, i32_w]
                rfl
              refine pure_ (i := 7) (N := some 25) (v := ?_) (a' := ?_) #[true, false, true, true, false, true, true, true, false, false, false, false, false, false, false, false, false, false, false, false, false, false, false, false, false] rfl rfl (any_of HT_.out (by kernel_rfl)) (fun _ _ _ h => h) (Or.inl ⟨by rfl, ?_⟩) ?_ ?_
              rotate_left
              · intro w'
                go_simp
                with_reducible rfl
              rotate_left
              · simp only [Act.put, List.setIfInBounds_toArray, List.set_cons_zero, List.set_cons_succ, i64_w, i32_w]
                rfl
              refine pure_ (i := 9) (N := some 27) (v := ?_) (a' := ?_) #[true, false, true, true, false, true, true, true, false, true, false, false, false, false, false, false, false, false, false, false, false, false, false, false, false] rfl rfl (any_of HT_.out (by kernel_rfl)) (fun _ _ _ h => h) (Or.inl ⟨by rfl, ?_⟩) ?_ ?_
              rotate_left
              · intro w'
                go_simp
                with_reducible rfl
              rotate_left
              · simp only [Act.put, List.setIfInBounds_toArray, List.set_cons_zero, List.set_cons_succ, i64_w, i32_w]
                rfl
              refine pure_ (i := 10) (N := some 28) (v := ?_) (a' := ?_) #[true, false, true, true, false, true, true, true, false, true, true, false, false, false, false, false, false, false, false, false, false, false, false, false, false] rfl rfl (any_of HT_.out (by kernel_rfl)) (fun _ _ _ h => h) (Or.inl ⟨by rfl, ?_⟩) ?_ ?_
              rotate_left
              · intro w'
                go_simp
                with_reducible rfl
              rotate_left
              · simp only [Act.put, List.setIfInBounds_toArray, List.set_cons_zero, List.set_cons_succ, i64_w, i32_w]
                rfl
              refine pure_ (i := 11) (N := some 29) (v := ?_) (a' := ?_) #[true, false, true, true, false, true, true, true, false, true, true, true, false, false, false, false, false, false, false, false, false, false, false, false, false] rfl rfl (any_of HT_.out (by kernel_rfl)) (fun _ _ _ h => h) (Or.inl ⟨by rfl, ?_⟩) ?_ ?_
              rotate_left
              · intro w'
                go_simp
                with_reducible rfl
              rotate_left
              · simp only [Act.put, List.setIfInBounds_toArray, List.set_cons_zero, List.set_cons_succ, i64_w, i32_w]
                rfl
              refine pure_ (i := 12) (N := some 30) (v := ?_) (a' := ?_) #[true, false, true, true, false, true, true, true, false, true, true, true, true, false, false, false, false, false, false, false, false, false, false, false, false] rfl rfl (any_of HT_.out (by kernel_rfl)) (fun _ _ _ h => h) (Or.inl ⟨by rfl, ?_⟩) ?_ ?_
              rotate_left
              · intro w'
                go_simp
                with_reducible rfl
              rotate_left
              · simp only [Act.put, List.setIfInBounds_toArray, List.set_cons_zero, List.set_cons_succ, i64_w, i32_w]
                rfl
              refine pure_ (i := 13) (N := some 31) (v := ?_) (a' := ?_) #[true, false, true, true, false, true, true, true, false, true, true, true, true, true, false, false, false, false, false, false, false, false, false, false, false] rfl rfl (any_of HT_.out (by kernel_rfl)) (fun _ _ _ h => h) (Or.inl ⟨by rfl, ?_⟩) ?_ ?_
              rotate_left
              · intro w'
                go_simp
                with_reducible rfl
              rotate_left
              · simp only [Act.put, List.setIfInBounds_toArray, List.set_cons_zero, List.set_cons_succ, i64_w, i32_w]
                rfl
              refine pure_ (i := 15) (N := some 33) (v := ?_) (a' := ?_) #[true, false, true, true, false, true, true, true, false, true, true, true, true, true, false, true, false, false, false, false, false, false, false, false, false] rfl rfl (any_of HT_.out (by kernel_rfl)) (fun _ _ _ h => h) (Or.inl ⟨by rfl, ?_⟩) ?_ ?_
              rotate_left
              · intro w'
                go_simp
                with_reducible rfl
              rotate_left
              · simp only [Act.put, List.setIfInBounds_toArray, List.set_cons_zero, List.set_cons_succ, i64_w, i32_w]
                rfl
              refine take_ (i := 1) (N := some 19) (v := ?_) (a' := ?_) #[true, true, true, true, false, true, true, true, false, true, true, true, true, true, false, true, false, false, false, false, false, false, false, false, false] rfl rfl (take_ofW HT_.out HW_.out (by kernel_rfl)) (fun _ _ _ h => h) (Or.inl ⟨by rfl, ?_⟩) hHeld ?_ ?_
              rotate_left
              · rintro w' ⟨s0, s1, s2, s3⟩
                go_simp
                with_reducible rfl
              rotate_left
              · simp only [Act.put, List.setIfInBounds_toArray, List.set_cons_zero, List.set_cons_succ, i64_w, i32_w]
                rfl
              refine one_ (i := 4) (N := some 22) #[true, true, true, true, true, true, true, true, false, true, true, true, true, true, false, true, false, false, false, false, false, false, false, false, false] rfl rfl (one_of HT_.out (by kernel_rfl)) (by decide) (fun K hK => ?_)
              refine goes_ Tryd.func6 (by kernel_rfl) rfl #[.int .i64 x7_1, .int .i64 (wrap64 ((wrap64 (Int.tmod a0 40)) + 1))] (by rfl) rfl rfl (by (try simp only [List.map_toArray, List.map_cons, List.map_nil]); first | done | rfl | (simp only [List.length_drop, List.length_take]; rfl)) ?_
              with_reducible refine (PB.estafettelaw16_name.calls k1 x7_1 (wrap64 ((wrap64 (Int.tmod a0 40)) + 1)) t175 _ A5.out).mono ?_
              rintro e w13 ⟨rfl, hb⟩
              refine ⟨_, rfl, ?_⟩
              have n0_ := Aside0.mk (Kd.S_below (by (with_reducible repeat (first | apply Kd.S_alloc | apply Kd.S_drewN | apply Kd.S_drew)); exact HO_167000.out) hb)
              have n1_ := Aside0.mk (blk_below (g := gb166) (o := .cells #[u167000, .slice none 0 0, .slice none 0 0, .int .i64 0] 26 (0, 0)) (by (with_reducible repeat (first | refine blk_drewN ?_ _ | refine blk_drew ?_ | refine blk_alloc ?_ _)); exact BK166.out) hb)
              have n2_ := Aside0.mk (below_step (by repeat (first | (with_reducible first | exact HB.out | apply below_alloc | apply pw_below_drewN | apply below_drew1 | refine below_set ?_ GE166.out) | exact HB.out)) hb)
              clear HO_167000
              clear BK166
              clear HB
              have HO_167000 := n0_
              have BK166 := n1_
              have HB := n2_
              clear n0_ n1_ n2_
              (try clear hb)
              (try clear hb2)
              (try clear hk)
              (try clear hi)
              refine hK.out _ _ ⟨(blk_cell BK166.out 0).trans rfl, (blk_cell BK166.out 1).trans rfl, (blk_cell BK166.out 2).trans rfl, (blk_cell BK166.out 3).trans rfl⟩ (fun hHeld => ?_)
              clear hK K
              refine norm_ (a' := ?_) ?_ ?_
              rotate_left
              · show Act.put _ (some 22) _ = _
                simp only [Act.put, List.setIfInBounds_toArray, List.set_cons_zero, List.set_cons_succ, i64_w, i32_w]
                rfl
              refine one_ (i := 8) (N := some 26) #[true, true, true, true, true, true, true, true, true, true, true, true, true, true, false, true, false, false, false, false, false, false, false, false, false] rfl rfl (one_of HT_.out (by kernel_rfl)) (by decide) (fun K hK => ?_)
              refine goes_ Tryd.func6 (by kernel_rfl) rfl #[.int .i64 (wrap64 (x7_1 + 1)), .int .i64 (wrap64 ((wrap64 (Int.tmod a0 40)) + 1))] (by rfl) rfl rfl (by (try simp only [List.map_toArray, List.map_cons, List.map_nil]); first | done | rfl | (simp only [List.length_drop, List.length_take]; rfl)) ?_
              with_reducible refine (PB.estafettelaw16_name.calls k1 (wrap64 (x7_1 + 1)) (wrap64 ((wrap64 (Int.tmod a0 40)) + 1)) t176 _ A6.out).mono ?_
              rintro e w14 ⟨rfl, hb⟩
              refine ⟨_, rfl, ?_⟩
              have n0_ := Aside0.mk (Kd.S_below (by (with_reducible repeat (first | apply Kd.S_alloc | apply Kd.S_drewN | apply Kd.S_drew)); exact HO_167000.out) hb)
              have n1_ := Aside0.mk (blk_below (g := gb166) (o := .cells #[u167000, .slice none 0 0, .slice none 0 0, .int .i64 0] 26 (0, 0)) (by (with_reducible repeat (first | refine blk_drewN ?_ _ | refine blk_drew ?_ | refine blk_alloc ?_ _)); exact BK166.out) hb)
              have n2_ := Aside0.mk (below_step (by repeat (first | (with_reducible first | exact HB.out | apply below_alloc | apply pw_below_drewN | apply below_drew1 | refine below_set ?_ GE166.out) | exact HB.out)) hb)
              clear HO_167000
              clear BK166
              clear HB
              have HO_167000 := n0_
              have BK166 := n1_
              have HB := n2_
              clear n0_ n1_ n2_
              (try clear hb)
              (try clear hb2)
              (try clear hk)
              (try clear hi)
              refine hK.out _ _ ⟨(blk_cell BK166.out 0).trans rfl, (blk_cell BK166.out 1).trans rfl, (blk_cell BK166.out 2).trans rfl, (blk_cell BK166.out 3).trans rfl⟩ (fun hHeld => ?_)
              clear hK K
              refine norm_ (a' := ?_) ?_ ?_
              rotate_left
              · show Act.put _ (some 26) _ = _
                simp only [Act.put, List.setIfInBounds_toArray, List.set_cons_zero, List.set_cons_succ, i64_w, i32_w]
                rfl
              refine one_ (i := 14) (N := some 32) #[true, true, true, true, true, true, true, true, true, true, true, true, true, true, true, true, false, false, false, false, false, false, false, false, false] rfl rfl (one_of HT_.out (by kernel_rfl)) (by decide) (fun K hK => ?_)
              refine goes_ Tryd.func6 (by kernel_rfl) rfl #[.int .i64 (wrap64 (x7_1 + (wrap64 (a1)))), .int .i64 (wrap64 ((wrap64 (Int.tmod a0 40)) + 1))] (by rfl) rfl rfl (by (try simp only [List.map_toArray, List.map_cons, List.map_nil]); first | done | rfl | (simp only [List.length_drop, List.length_take]; rfl)) ?_
              with_reducible refine (PB.estafettelaw16_name.calls k1 (wrap64 (x7_1 + (wrap64 (a1)))) (wrap64 ((wrap64 (Int.tmod a0 40)) + 1)) t177 _ A7.out).mono ?_
              rintro e w15 ⟨rfl, hb⟩
              refine ⟨_, rfl, ?_⟩
              have n0_ := Aside0.mk (Kd.S_below (by (with_reducible repeat (first | apply Kd.S_alloc | apply Kd.S_drewN | apply Kd.S_drew)); exact HO_167000.out) hb)
              have n1_ := Aside0.mk (blk_below (g := gb166) (o := .cells #[u167000, .slice none 0 0, .slice none 0 0, .int .i64 0] 26 (0, 0)) (by (with_reducible repeat (first | refine blk_drewN ?_ _ | refine blk_drew ?_ | refine blk_alloc ?_ _)); exact BK166.out) hb)
              have n2_ := Aside0.mk (below_step (by repeat (first | (with_reducible first | exact HB.out | apply below_alloc | apply pw_below_drewN | apply below_drew1 | refine below_set ?_ GE166.out) | exact HB.out)) hb)
              clear HO_167000
              clear BK166
              clear HB
              have HO_167000 := n0_
              have BK166 := n1_
              have HB := n2_
              clear n0_ n1_ n2_
              (try clear hb)
              (try clear hb2)
              (try clear hk)
              (try clear hi)
              refine hK.out _ _ ⟨(blk_cell BK166.out 0).trans rfl, (blk_cell BK166.out 1).trans rfl, (blk_cell BK166.out 2).trans rfl, (blk_cell BK166.out 3).trans rfl⟩ (fun hHeld => ?_)
              clear hK K
              refine norm_ (a' := ?_) ?_ ?_
              rotate_left
              · show Act.put _ (some 32) _ = _
                simp only [Act.put, List.setIfInBounds_toArray, List.set_cons_zero, List.set_cons_succ, i64_w, i32_w]
                rfl
              refine one_ (i := 16) (N := some 34) #[true, true, true, true, true, true, true, true, true, true, true, true, true, true, true, true, true, false, false, false, false, false, false, false, false] rfl rfl (one_of HT_.out (by kernel_rfl)) (by decide) (fun K hK => ?_)
              refine goes_ Tryd.func7 (by kernel_rfl) rfl #[.int .i64 x7_1] (by rfl) rfl rfl (by (try simp only [List.map_toArray, List.map_cons, List.map_nil]); first | done | rfl | (simp only [List.length_drop, List.length_take]; rfl)) ?_
              with_reducible refine (PB.estafetteref01_Dec.calls k1 x7_1 t178 _ A8.out).mono ?_
              rintro e w16 ⟨rfl, hb⟩
              refine ⟨_, rfl, ?_⟩
              have n0_ := Aside0.mk (Kd.S_below (by (with_reducible repeat (first | apply Kd.S_alloc | apply Kd.S_drewN | apply Kd.S_drew)); exact HO_167000.out) hb)
              have n1_ := Aside0.mk (blk_below (g := gb166) (o := .cells #[u167000, .slice none 0 0, .slice none 0 0, .int .i64 0] 26 (0, 0)) (by (with_reducible repeat (first | refine blk_drewN ?_ _ | refine blk_drew ?_ | refine blk_alloc ?_ _)); exact BK166.out) hb)
              have n2_ := Aside0.mk (below_step (by repeat (first | (with_reducible first | exact HB.out | apply below_alloc | apply pw_below_drewN | apply below_drew1 | refine below_set ?_ GE166.out) | exact HB.out)) hb)
              clear HO_167000
              clear BK166
              clear HB
              have HO_167000 := n0_
              have BK166 := n1_
              have HB := n2_
              clear n0_ n1_ n2_
              (try clear hb)
              (try clear hb2)
              (try clear hk)
              (try clear hi)
              refine hK.out _ _ ⟨(blk_cell BK166.out 0).trans rfl, (blk_cell BK166.out 1).trans rfl, (blk_cell BK166.out 2).trans rfl, (blk_cell BK166.out 3).trans rfl⟩ (fun hHeld => ?_)
              clear hK K
              refine norm_ (a' := ?_) ?_ ?_
              rotate_left
              · show Act.put _ (some 34) _ = _
                simp only [Act.put, List.setIfInBounds_toArray, List.set_cons_zero, List.set_cons_succ, i64_w, i32_w]
                rfl
              refine pure_ (i := 17) (N := some 35) (v := ?_) (a' := ?_) #[true, true, true, true, true, true, true, true, true, true, true, true, true, true, true, true, true, true, false, false, false, false, false, false, false] rfl rfl (any_of HT_.out (by kernel_rfl)) (fun _ _ _ h => h) (Or.inl ⟨by rfl, ?_⟩) ?_ ?_
              rotate_left
              · intro w'
                go_simp
                with_reducible rfl
              rotate_left
              · simp only [Act.put, List.setIfInBounds_toArray, List.set_cons_zero, List.set_cons_succ, i64_w, i32_w]
                rfl
              refine pure_ (i := 18) (N := some 36) (v := ?_) (a' := ?_) #[true, true, true, true, true, true, true, true, true, true, true, true, true, true, true, true, true, true, true, false, false, false, false, false, false] rfl rfl (any_of HT_.out (by kernel_rfl)) (fun _ _ _ h => h) (Or.inl ⟨by rfl, ?_⟩) ?_ ?_
              rotate_left
              · intro w'
                go_simp
                with_reducible rfl
              rotate_left
              · simp only [Act.put, List.setIfInBounds_toArray, List.set_cons_zero, List.set_cons_succ, i64_w, i32_w]
                rfl
              refine one_ (i := 19) (N := some 37) #[true, true, true, true, true, true, true, true, true, true, true, true, true, true, true, true, true, true, true, true, false, false, false, false, false] rfl rfl (one_of HT_.out (by kernel_rfl)) (by decide) (fun K hK => ?_)
              refine Kd.R_lit_step Kd.string _ 9 ?hg (N := 37) ?hd (xs := ([t176, t177, ((⟨#[116]⟩ : ByteArray) ++ t178) ++ (⟨#[64, 121]⟩ : ByteArray)] : List ByteArray)) (inner := [.string t176, .string t177, .string (((⟨#[116]⟩ : ByteArray) ++ t178) ++ (⟨#[64, 121]⟩ : ByteArray))]) (ok := fun _ => True) (okp := fun _ => True) ?hr ?hp (fun _ hk => hk) trivial (Below.refl _ _) (Nat.le_refl _) (by simp) ?_; (case hd => rfl); (case hg => rfl); (case hr => first | (go_simp; done) | (go_simp; rfl)); (case hp => exact (Reps.one (show Kd.M Kd.string _ _ _ t176 [.string t176] from rfl) (Reps.one (show Kd.M Kd.string _ _ _ t177 [.string t177] from rfl) (Reps.one (show Kd.M Kd.string _ _ _ (((⟨#[116]⟩ : ByteArray) ++ t178) ++ (⟨#[64, 121]⟩ : ByteArray)) [.string (((⟨#[116]⟩ : ByteArray) ++ t178) ++ (⟨#[64, 121]⟩ : ByteArray))] from rfl) (Reps.none _ _)))))
              intro v180 w17 ho18 hb hg_ hnew_
              clear hg_ hnew_
              (first | rw [← Ny179.out] at ho18 | (simp only [Int.reduceToNat] at ho18; rw [← Ny179.out] at ho18))
              have n0_ := Aside0.mk (Kd.S_elder' (by (with_reducible repeat (first | apply Kd.S_alloc | apply Kd.S_drewN | apply Kd.S_drew)); exact HO_167000.out) (Kd.R_base ho18) hb)
              have n1_ := Aside0.mk (Kd.R_lower ho18 (below_size (by repeat (first | (with_reducible first | exact HB.out | apply below_alloc | apply pw_below_drewN | apply below_drew1 | refine below_set ?_ GE166.out) | exact HB.out))))
              have n2_ := Aside0.mk (blk_below (g := gb166) (o := .cells #[u167000, .slice none 0 0, .slice none 0 0, .int .i64 0] 26 (0, 0)) (by (with_reducible repeat (first | refine blk_drewN ?_ _ | refine blk_drew ?_ | refine blk_alloc ?_ _)); exact BK166.out) hb)
              have n3_ := Aside0.mk (below_step (by repeat (first | (with_reducible first | exact HB.out | apply below_alloc | apply pw_below_drewN | apply below_drew1 | refine below_set ?_ GE166.out) | exact HB.out)) hb)
              clear HO_167000
              clear BK166
              clear HB
              have HO_167000 := n0_
              have HO181 := n1_
              have BK166 := n2_
              have HB := n3_
              clear n0_ n1_ n2_ n3_
              clear hb ho18
              obtain ⟨Ao19, co19, eo19⟩ := Kd.R_slice HO181.out
              (first | subst eo19 | (injection eo19 with f1_ f2_ f3_; have f4_ := f1_.symm; have f5_ := f3_.symm; clear f1_ f2_ f3_; subst f4_; subst f5_))
              refine hK.out _ _ ⟨(blk_cell BK166.out 0).trans rfl, (blk_cell BK166.out 1).trans rfl, (blk_cell BK166.out 2).trans rfl, (blk_cell BK166.out 3).trans rfl⟩ (fun hHeld => ?_)
              clear hK K
              refine norm_ (a' := ?_) ?_ ?_
              rotate_left
              · show Act.put _ (some 37) _ = _
                simp only [Act.put, List.setIfInBounds_toArray, List.set_cons_zero, List.set_cons_succ, i64_w, i32_w]
                rfl
              refine pure_ (i := 20) (N := some 38) (v := ?_) (a' := ?_) #[true, true, true, true, true, true, true, true, true, true, true, true, true, true, true, true, true, true, true, true, true, false, false, false, false] rfl rfl (any_of HT_.out (by kernel_rfl)) (fun _ _ _ h => h) (Or.inl ⟨by rfl, ?_⟩) ?_ ?_
              rotate_left
              · intro w'
                go_simp
                with_reducible rfl
              rotate_left
              · simp only [Act.put, List.setIfInBounds_toArray, List.set_cons_zero, List.set_cons_succ, i64_w, i32_w]
                rfl
              refine one_ (i := 21) (N := some 39) #[true, true, true, true, true, true, true, true, true, true, true, true, true, true, true, true, true, true, true, true, true, true, false, false, false] rfl rfl (one_of HT_.out (by kernel_rfl)) (by decide) (fun K hK => ?_)
              refine value_ (w1 := ?_) (v := ?_) (by rfl) rfl ?_ ?_
              rotate_left 2
              · go_simp
                constructor
                · rfl
                · rfl
              refine hK.out _ _ ⟨(blk_cell (blk_alloc BK166.out _) 0).trans rfl, (blk_cell (blk_alloc BK166.out _) 1).trans rfl, (blk_cell (blk_alloc BK166.out _) 2).trans rfl, (blk_cell (blk_alloc BK166.out _) 3).trans rfl⟩ (fun hHeld => ?_)
              clear hK K
              refine norm_ (a' := ?_) ?_ ?_
              rotate_left
              · show Act.put _ (some 39) _ = _
                simp only [Act.put, List.setIfInBounds_toArray, List.set_cons_zero, List.set_cons_succ, i64_w, i32_w]
                rfl
              refine one_ (i := 22) (N := some 40) #[true, true, true, true, true, true, true, true, true, true, true, true, true, true, true, true, true, true, true, true, true, true, true, false, false] rfl rfl (one_of HT_.out (by kernel_rfl)) (by decide) (fun K hK => ?_)
              refine Kd.S_append_step k31 (w0 := w) w.heap.size (by rfl) (.tmp 19) (.tmp 39) 22 31 (.agg #[(.string ⟨#[]⟩), (.slice none 0 0)]) 40 rfl Tryd.underlying22 info31 rfl (by decide) (by omega) u167000 x167000_1 (⟨t175, y179⟩ : S31) [.string t175, .slice Ao19 y179.length co19] (fun _ => True) (fun k_ => some k_ = (.slice Ao19 y179.length co19 : Value).ownBlock) rfl rfl ?aP (fun k_ hk_ => ((Kd.R_mono (ok' := fun k_ => ((fun _ => True)) k_ ∧ some k_ ≠ (u167000 : Value).ownBlock) (Kd.R_apart' (HO181.out) (Kd.S_typed HO_167000.out) (by decide)) (fun k_ hk => ⟨trivial, hk.2⟩))).1 k_ hk_.symm) ?aF ?aO ?aB ?aS ?aL ?_
              (case aP => exact k31_mkM _ _ _ (⟨t175, y179⟩ : S31) (Kd.R_mono (Kd.R_tight rfl (Kd.R_mono (ok' := fun k_ => ((fun _ => True)) k_ ∧ some k_ ≠ (u167000 : Value).ownBlock) (Kd.R_apart' (HO181.out) (Kd.S_typed HO_167000.out) (by decide)) (fun k_ hk => ⟨trivial, hk.2⟩))) (fun _ h_ => h_)))
              (case aB => exact (by repeat (first | (with_reducible first | exact HB.out | apply below_alloc | apply pw_below_drewN | apply below_drew1 | refine below_set ?_ GE166.out) | exact HB.out)))
              (case aF => exact (fun _ _ => trivial))
              (case aO => exact (by (with_reducible repeat (first | apply Kd.S_alloc | apply Kd.S_drewN | apply Kd.S_drew)); exact Kd.S_mono HO_167000.out (fun k_ hk => ⟨trivial, fun e_ => hk.2 e_⟩)))
              (case aS => exact (below_size (by repeat (first | (with_reducible first | exact HB.out | apply below_alloc | apply pw_below_drewN | apply below_drew1 | refine below_set ?_ GE166.out) | exact HB.out))))
              (case aL => have := LMc11.out; omega)
              intro v183 w20 ho hb hg hat
              rw [← Ny182.out] at ho
              have n0_ := Aside0.mk (blk_grown (g := gb166) (o := .cells #[u167000, .slice none 0 0, .slice none 0 0, .int .i64 0] 26 (0, 0)) (by (with_reducible repeat (first | refine blk_drewN ?_ _ | refine blk_drew ?_ | refine blk_alloc ?_ _)); exact BK166.out) hg (Kd.S_ne HO_167000.out BK166.out (by decide)))
              have n1_ := Aside0.mk (hb)
              have n2_ := Aside0.mk (ho)
              clear BK166
              clear HB
              clear HO_167000
              clear HO181
              have BK166 := n0_
              have HB := n1_
              have HO184 := n2_
              clear n0_ n1_ n2_
              clear ho hb hg hat
              obtain ⟨Ao21, co21, eo21⟩ := Kd.S_slice HO184.out
              (first | subst eo21 | (injection eo21 with f1_ f2_ f3_; have f4_ := f1_.symm; have f5_ := f3_.symm; clear f1_ f2_ f3_; subst f4_; subst f5_))
              refine hK.out _ _ ⟨(blk_cell BK166.out 0).trans rfl, (blk_cell BK166.out 1).trans rfl, (blk_cell BK166.out 2).trans rfl, (blk_cell BK166.out 3).trans rfl⟩ (fun hHeld => ?_)
              clear hK K
              refine norm_ (a' := ?_) ?_ ?_
              rotate_left
              · show Act.put _ (some 40) _ = _
                simp only [Act.put, List.setIfInBounds_toArray, List.set_cons_zero, List.set_cons_succ, i64_w, i32_w]
                rfl
              refine pure_ (i := 23) (N := some 41) (v := ?_) (a' := ?_) #[true, true, true, true, true, true, true, true, true, true, true, true, true, true, true, true, true, true, true, true, true, true, true, true, false] rfl rfl (any_of HT_.out (by kernel_rfl)) (fun _ _ _ h => h) (Or.inl ⟨by rfl, ?_⟩) ?_ ?_
              rotate_left
              · intro w'
                go_simp
                with_reducible rfl
              rotate_left
              · simp only [Act.put, List.setIfInBounds_toArray, List.set_cons_zero, List.set_cons_succ, i64_w, i32_w]
                rfl
              refine last_ (i := 24) (N := none) #[true, true, true, true, true, true, true, true, true, true, true, true, true, true, true, true, true, true, true, true, true, true, true, true, true] rfl rfl (one_of HT_.out (by kernel_rfl)) (by decide) (fun K hK => ?_)
              have hs22 : w20.cell? ⟨gb166, 0, none⟩ = some (u167000) := (blk_cell BK166.out 0).trans rfl
              have hfs22 := blk_frozen BK166.out 0
              refine skip_ (w1 := ?_) (by rfl) rfl ?_ ?_
              rotate_left
              · go_simp
                rfl
              refine hK.out _ _ ?_
              clear hK K
              refine done_ (done_of HT_.out (by kernel_rfl)) ?_
              try go_wp2
              go_roundg k1
              case measure => have := HK1.out; omega
              case rel => exact ⟨(wrap64 (x7_1 + 1)), (y182), (.slice Ao21 y182.length co21), (by first | rfl | (simp; done) | (simp [*]; done)), H', ⟨by have := HK1.out; omega⟩, ⟨by (with_reducible repeat (first | apply Kd.S_alloc | apply Kd.S_drewN | apply Kd.S_drew)); exact Kd.S_mono (Kd.S_far (p := ⟨gb166, 0, none⟩) (Kd.S_types HO184.out BK166.out (by decide)) (fun _ hk => hk.2) (.slice Ao21 y182.length co21)) (fun _ hk => trivial)⟩, ⟨by (with_reducible repeat (first | refine blk_drewN ?_ _ | refine blk_drew ?_ | refine blk_alloc ?_ _)); refine blk_put (cs := #[u167000, .slice none 0 0, .slice none 0 0, .int .i64 0]) ?_ 0 _ rfl; (with_reducible repeat (first | refine blk_drewN ?_ _ | refine blk_drew ?_ | refine blk_alloc ?_ _)); exact BK166.out⟩, ⟨by repeat (first | (with_reducible first | exact HB.out | apply below_alloc | apply pw_below_drewN | apply below_drew1 | refine below_set ?_ GE166.out) | exact HB.out)⟩⟩
            · rw [if_neg c11] at H
              exact absurd H (by simp)
          · rw [if_neg c10] at H
            exact absurd H (by simp)
        · rw [if_neg c9] at H
          exact absurd H (by simp)
      · rw [if_neg c4] at H
        have c4b0 : decide (x7_1 < (wrap64 ((wrap64 (Int.tmod a0 40)) + 1))) = false := decide_eq_false c4
        clear c4
        replace H := Option.bind_eq_some_iff.mp H
        obtain ⟨t167, A230, H⟩ := H
        replace H : ((Hand.alias_Expand.f k1 x167000_1 ([] : List (S96)) ([] : List (S98)) 0 (([t167] : List ByteArray))).bind fun t171 => ((estafettelaw16_answers.f k1).bind fun t174 => (if t174 = true then (some ((t171.length : Int) == (wrap64 ((wrap64 (Int.tmod a0 40)) + 1)))) else (some false)))) = some r := H
        have A23 := Aside0.mk A230
        clear A230
        obtain ⟨y168, hy168⟩ : ∃ y_ : List ByteArray, y_ = (([t167] : List ByteArray)) := ⟨_, rfl⟩
        replace H : ((Hand.alias_Expand.f k1 x167000_1 ([] : List (S96)) ([] : List (S98)) 0 y168).bind fun t171 => ((estafettelaw16_answers.f k1).bind fun t174 => (if t174 = true then (some ((t171.length : Int) == (wrap64 ((wrap64 (Int.tmod a0 40)) + 1)))) else (some false)))) = some r := by first | (rw [hy168]; with_reducible exact H) | (have H2_ := (Option.bind_some _ _).symm.trans H; rw [hy168]; with_reducible exact H2_) | (have H2_ := (Option.bind_some _ _).symm.trans H; with_reducible exact H2_) | with_reducible exact H | (rw [hy168]; exact H) | exact H
        have Ny168 := Aside0.mk hy168
        clear hy168
        replace H := Option.bind_eq_some_iff.mp H
        obtain ⟨t171, A240, H⟩ := H
        replace H : ((estafettelaw16_answers.f k1).bind fun t174 => (if t174 = true then (some ((t171.length : Int) == (wrap64 ((wrap64 (Int.tmod a0 40)) + 1)))) else (some false))) = some r := H
        have A24 := Aside0.mk A240
        clear A240
        replace H := Option.bind_eq_some_iff.mp H
        obtain ⟨t174, A250, H⟩ := H
        replace H : (if t174 = true then (some ((t171.length : Int) == (wrap64 ((wrap64 (Int.tmod a0 40)) + 1)))) else (some false)) = some r := H
        have A25 := Aside0.mk A250
        clear A250
        by_cases c26 : t174 = true
        · subst c26
          have H1 : (some ((t171.length : Int) == (wrap64 ((wrap64 (Int.tmod a0 40)) + 1)))) = some r := by rw [if_pos rfl] at H; exact H
          clear H
          have H := H1
          clear H1
          obtain rfl := Option.some.inj H
          try go_wp2
          have n0_ := Aside0.mk (Kd.S_drew HO_167000.out)
          have n1_ := Aside0.mk (blk_drew BK166.out)
          have n2_ := Aside0.mk (below_drew1 HB.out)
          clear HO_167000
          clear BK166
          clear HB
          have HO_167000 := n0_
          have BK166 := n1_
          have HB := n2_
          clear n0_ n1_ n2_
          refine start_ (n := 8) (S := fun w' => w'.cell? ⟨gb166, 0, none⟩ = some (u167000) ∧ w'.cell? ⟨gb166, 1, none⟩ = some (.slice none 0 0) ∧ w'.cell? ⟨gb166, 2, none⟩ = some (.slice none 0 0) ∧ w'.cell? ⟨gb166, 3, none⟩ = some (.int .i64 0)) (ds := []) #[false, false, false, false, false, false, false, false] (by kernel_rfl) rfl rfl ⟨(blk_cell BK166.out 0).trans rfl, (blk_cell BK166.out 1).trans rfl, (blk_cell BK166.out 2).trans rfl, (blk_cell BK166.out 3).trans rfl⟩ (fun hHeld => ?_); refine with_tabW estafettelaw16_AliasLoops.tab7 estafettelaw16_AliasLoops.bits7 (fun HT_ HW_ => ?_)
          generalize wr.drew = w27 at HO_167000 BK166 HB hHeld ⊢
          refine pure_ (i := 1) (N := some 43) (v := ?_) (a' := ?_) #[false, true, false, false, false, false, false, false] rfl rfl (any_of HT_.out (by kernel_rfl)) (fun _ _ _ h => h) (Or.inl ⟨by rfl, ?_⟩) ?_ ?_
          rotate_left
          · intro w'
            go_simp
            with_reducible rfl
          rotate_left
          · simp only [Act.put, List.setIfInBounds_toArray, List.set_cons_zero, List.set_cons_succ, i64_w, i32_w]
            rfl
          refine pure_ (i := 2) (N := some 44) (v := ?_) (a' := ?_) #[false, true, true, false, false, false, false, false] rfl rfl (any_of HT_.out (by kernel_rfl)) (fun _ _ _ h => h) (Or.inl ⟨by rfl, ?_⟩) ?_ ?_
          rotate_left
          · intro w'
            go_simp
            with_reducible rfl
          rotate_left
          · simp only [Act.put, List.setIfInBounds_toArray, List.set_cons_zero, List.set_cons_succ, i64_w, i32_w]
            rfl
          refine pure_ (i := 3) (N := some 45) (v := ?_) (a' := ?_) #[false, true, true, true, false, false, false, false] rfl rfl (any_of HT_.out (by kernel_rfl)) (fun _ _ _ h => h) (Or.inl ⟨by rfl, ?_⟩) ?_ ?_
          rotate_left
          · intro w'
            go_simp
            with_reducible rfl
          rotate_left
          · simp only [Act.put, List.setIfInBounds_toArray, List.set_cons_zero, List.set_cons_succ, i64_w, i32_w]
            rfl
          refine take_ (i := 0) (N := some 42) (v := ?_) (a' := ?_) #[true, true, true, true, false, false, false, false] rfl rfl (take_ofW HT_.out HW_.out (by kernel_rfl)) (fun _ _ _ h => h) (Or.inl ⟨by rfl, ?_⟩) hHeld ?_ ?_
          rotate_left
          · rintro w' ⟨s0, s1, s2, s3⟩
            go_simp
            with_reducible rfl
          rotate_left
          · simp only [Act.put, List.setIfInBounds_toArray, List.set_cons_zero, List.set_cons_succ, i64_w, i32_w]
            rfl
          refine one_ (i := 4) (N := some 46) #[true, true, true, true, true, false, false, false] rfl rfl (one_of HT_.out (by kernel_rfl)) (by decide) (fun K hK => ?_)
          refine goes_ Tryd.func6 (by kernel_rfl) rfl #[.int .i64 (wrap64 (a1)), .int .i64 (wrap64 ((wrap64 (Int.tmod a0 40)) + 1))] (by rfl) rfl rfl (by (try simp only [List.map_toArray, List.map_cons, List.map_nil]); first | done | rfl | (simp only [List.length_drop, List.length_take]; rfl)) ?_
          with_reducible refine (PB.estafettelaw16_name.calls k1 (wrap64 (a1)) (wrap64 ((wrap64 (Int.tmod a0 40)) + 1)) t167 _ A23.out).mono ?_
          rintro e w28 ⟨rfl, hb⟩
          refine ⟨_, rfl, ?_⟩
          have n0_ := Aside0.mk (Kd.S_below (by (with_reducible repeat (first | apply Kd.S_alloc | apply Kd.S_drewN | apply Kd.S_drew)); exact HO_167000.out) hb)
          have n1_ := Aside0.mk (blk_below (g := gb166) (o := .cells #[u167000, .slice none 0 0, .slice none 0 0, .int .i64 0] 26 (0, 0)) (by (with_reducible repeat (first | refine blk_drewN ?_ _ | refine blk_drew ?_ | refine blk_alloc ?_ _)); exact BK166.out) hb)
          have n2_ := Aside0.mk (below_step (by repeat (first | (with_reducible first | exact HB.out | apply below_alloc | apply pw_below_drewN | apply below_drew1 | refine below_set ?_ GE166.out) | exact HB.out)) hb)
          clear HO_167000
          clear BK166
          clear HB
          have HO_167000 := n0_
          have BK166 := n1_
          have HB := n2_
          clear n0_ n1_ n2_
          (try clear hb)
          (try clear hb2)
          (try clear hk)
          (try clear hi)
          refine hK.out _ _ ⟨(blk_cell BK166.out 0).trans rfl, (blk_cell BK166.out 1).trans rfl, (blk_cell BK166.out 2).trans rfl, (blk_cell BK166.out 3).trans rfl⟩ (fun hHeld => ?_)
          clear hK K
          refine norm_ (a' := ?_) ?_ ?_
          rotate_left
          · show Act.put _ (some 46) _ = _
            simp only [Act.put, List.setIfInBounds_toArray, List.set_cons_zero, List.set_cons_succ, i64_w, i32_w]
            rfl
          refine one_ (i := 5) (N := some 47) #[true, true, true, true, true, true, false, false] rfl rfl (one_of HT_.out (by kernel_rfl)) (by decide) (fun K hK => ?_)
          refine Kd.R_lit_step Kd.string _ 9 ?hg (N := 47) ?hd (xs := ([t167] : List ByteArray)) (inner := [.string t167]) (ok := fun _ => True) (okp := fun _ => True) ?hr ?hp (fun _ hk => hk) trivial (Below.refl _ _) (Nat.le_refl _) (by simp) ?_; (case hd => rfl); (case hg => rfl); (case hr => first | (go_simp; done) | (go_simp; rfl)); (case hp => exact (Reps.one (show Kd.M Kd.string _ _ _ t167 [.string t167] from rfl) (Reps.none _ _)))
          intro v169 w29 ho30 hb hg_ hnew_
          clear hg_ hnew_
          (first | rw [← Ny168.out] at ho30 | (simp only [Int.reduceToNat] at ho30; rw [← Ny168.out] at ho30))
          have n0_ := Aside0.mk (Kd.S_elder' (by (with_reducible repeat (first | apply Kd.S_alloc | apply Kd.S_drewN | apply Kd.S_drew)); exact HO_167000.out) (Kd.R_base ho30) hb)
          have n1_ := Aside0.mk (Kd.R_lower ho30 (below_size (by repeat (first | (with_reducible first | exact HB.out | apply below_alloc | apply pw_below_drewN | apply below_drew1 | refine below_set ?_ GE166.out) | exact HB.out))))
          have n2_ := Aside0.mk (blk_below (g := gb166) (o := .cells #[u167000, .slice none 0 0, .slice none 0 0, .int .i64 0] 26 (0, 0)) (by (with_reducible repeat (first | refine blk_drewN ?_ _ | refine blk_drew ?_ | refine blk_alloc ?_ _)); exact BK166.out) hb)
          have n3_ := Aside0.mk (below_step (by repeat (first | (with_reducible first | exact HB.out | apply below_alloc | apply pw_below_drewN | apply below_drew1 | refine below_set ?_ GE166.out) | exact HB.out)) hb)
          clear HO_167000
          clear BK166
          clear HB
          have HO_167000 := n0_
          have HO170 := n1_
          have BK166 := n2_
          have HB := n3_
          clear n0_ n1_ n2_ n3_
          clear hb ho30
          obtain ⟨Ao31, co31, eo31⟩ := Kd.S_slice HO_167000.out
          (first | subst eo31 | (injection eo31 with f1_ f2_ f3_; have f4_ := f1_.symm; have f5_ := f3_.symm; clear f1_ f2_ f3_; subst f4_; subst f5_))
          obtain ⟨Ao32, co32, eo32⟩ := Kd.R_slice HO170.out
          (first | subst eo32 | (injection eo32 with f1_ f2_ f3_; have f4_ := f1_.symm; have f5_ := f3_.symm; clear f1_ f2_ f3_; subst f4_; subst f5_))
          refine hK.out _ _ ⟨(blk_cell BK166.out 0).trans rfl, (blk_cell BK166.out 1).trans rfl, (blk_cell BK166.out 2).trans rfl, (blk_cell BK166.out 3).trans rfl⟩ (fun hHeld => ?_)
          clear hK K
          refine norm_ (a' := ?_) ?_ ?_
          rotate_left
          · show Act.put _ (some 47) _ = _
            simp only [Act.put, List.setIfInBounds_toArray, List.set_cons_zero, List.set_cons_succ, i64_w, i32_w]
            rfl
          refine one_ (i := 6) (N := some 48) #[true, true, true, true, true, true, true, false] rfl rfl (one_of HT_.out (by kernel_rfl)) (by decide) (fun K hK => ?_)
          refine goes_ Tryd.func8 (by kernel_rfl) rfl #[.agg #[.slice Ao31 x167000_1.length co31, .slice none 0 0, .slice none 0 0, .int .i64 0], .slice Ao32 y168.length co32] (by rfl) rfl rfl (by (try simp only [List.map_toArray, List.map_cons, List.map_nil]); first | done | rfl | (simp only [List.length_drop, List.length_take]; rfl)) ?_
          refine (Hand.alias_Expand.calls k1 _ _ x167000_1 _ _ ([] : List (S96)) _ _ ([] : List (S98)) 0 _ _ y168 t171 _ ?side1 ?side2 ?side3 ?side4 ?side5 ?side6 ?side7 ?side8 A24.out).mono ?_
          (case side1 => repeat (first | exact (Kd.S_reads' HO_167000.out).2.2 | (with_reducible refine Kd.C_alloc ?_ _) | (with_reducible refine Kd.C_drewN ?_ _) | (with_reducible refine Kd.C_drew ?_)))
          (case side2 => exact (Kd.S_reads' HO_167000.out).2.1)
          (case side3 => exact Kd.C_nil _ _)
          (case side4 => exact Nat.le_refl _)
          (case side5 => exact Kd.C_nil _ _)
          (case side6 => exact Nat.le_refl _)
          (case side7 => repeat (first | exact (Kd.R_reads' HO170.out).2.2 | (with_reducible refine Kd.C_alloc ?_ _) | (with_reducible refine Kd.C_drewN ?_ _) | (with_reducible refine Kd.C_drew ?_)))
          (case side8 => exact (Kd.R_reads' HO170.out).2.1)
          rintro e w33 ⟨v172, rfl, ho0, hb⟩
          refine ⟨_, rfl, ?_⟩
          have n0_ := Aside0.mk (Kd.S_elder' (by (with_reducible repeat (first | apply Kd.S_alloc | apply Kd.S_drewN | apply Kd.S_drew)); exact HO_167000.out) (Kd.Z_base ho0) hb)
          have n1_ := Aside0.mk (Kd.R_elder' (by (with_reducible repeat (first | apply Kd.R_alloc | apply Kd.R_drewN | apply Kd.R_drew)); exact HO170.out) (Kd.Z_base ho0) hb)
          have n2_ := Aside0.mk (Kd.Z_lower (Kd.Z_new' ho0 (Kd.R_lt (by (with_reducible repeat (first | apply Kd.R_alloc | apply Kd.R_drewN | apply Kd.R_drew)); exact HO170.out))) (below_size (by repeat (first | (with_reducible first | exact HB.out | apply below_alloc | apply pw_below_drewN | apply below_drew1 | refine below_set ?_ GE166.out) | exact HB.out))))
          have n3_ := Aside0.mk (blk_below (g := gb166) (o := .cells #[.slice Ao31 x167000_1.length co31, .slice none 0 0, .slice none 0 0, .int .i64 0] 26 (0, 0)) (by (with_reducible repeat (first | refine blk_drewN ?_ _ | refine blk_drew ?_ | refine blk_alloc ?_ _)); exact BK166.out) hb)
          have n4_ := Aside0.mk (below_step (by repeat (first | (with_reducible first | exact HB.out | apply below_alloc | apply pw_below_drewN | apply below_drew1 | refine below_set ?_ GE166.out) | exact HB.out)) hb)
          clear HO_167000
          clear HO170
          clear BK166
          clear HB
          have HO_167000 := n0_
          have HO170 := n1_
          have HO173 := n2_
          have BK166 := n3_
          have HB := n4_
          clear n0_ n1_ n2_ n3_ n4_
          (try clear hb)
          (try clear hb2)
          (try clear hk)
          (try clear hi)
          (try clear ho0)
          refine hK.out _ _ ⟨(blk_cell BK166.out 0).trans rfl, (blk_cell BK166.out 1).trans rfl, (blk_cell BK166.out 2).trans rfl, (blk_cell BK166.out 3).trans rfl⟩ (fun hHeld => ?_)
          clear hK K
          refine norm_ (a' := ?_) ?_ ?_
          rotate_left
          · show Act.put _ (some 48) _ = _
            simp only [Act.put, List.setIfInBounds_toArray, List.set_cons_zero, List.set_cons_succ, i64_w, i32_w]
            rfl
          refine pure_ (i := 7) (N := some 8) (v := ?_) (a' := ?_) #[true, true, true, true, true, true, true, true] rfl rfl (any_of HT_.out (by kernel_rfl)) (fun _ _ _ h => h) (Or.inl ⟨by rfl, ?_⟩) ?_ ?_
          rotate_left
          · intro w'
            go_simp
            with_reducible rfl
          rotate_left
          · simp only [Act.put, List.setIfInBounds_toArray, List.set_cons_zero, List.set_cons_succ, i64_w, i32_w]
            rfl
          refine done_ (done_of HT_.out (by kernel_rfl)) ?_
          try go_wp2_with (first | ((with_reducible refine gate_callee (f := 9) rfl ?_); refine goesL_ (some 49) rfl rfl Tryd.func9 (by kernel_rfl) rfl #[] rfl (by (try simp only [List.map_toArray, List.map_cons, List.map_nil]); first | done | rfl | (simp only [List.length_drop, List.length_take]; rfl)) ?_; (with_reducible refine (estafettelaw16_answers.calls k1  true _ A25.out).mono ?_); rintro e w34 ⟨rfl, hb⟩; refine ⟨_, rfl, ?_⟩; have n0_ := Aside0.mk (Kd.S_below (by (with_reducible repeat (first | apply Kd.S_alloc | apply Kd.S_drewN | apply Kd.S_drew)); exact HO_167000.out) hb); have n1_ := Aside0.mk (Kd.R_below (by (with_reducible repeat (first | apply Kd.R_alloc | apply Kd.R_drewN | apply Kd.R_drew)); exact HO170.out) hb); have n2_ := Aside0.mk (Kd.Z_below (by (with_reducible repeat (first | apply Kd.Z_alloc | apply Kd.Z_drewN | apply Kd.Z_drew)); exact HO173.out) hb); have n3_ := Aside0.mk (blk_below (g := gb166) (o := .cells #[.slice Ao31 x167000_1.length co31, .slice none 0 0, .slice none 0 0, .int .i64 0] 26 (0, 0)) (by (with_reducible repeat (first | refine blk_drewN ?_ _ | refine blk_drew ?_ | refine blk_alloc ?_ _)); exact BK166.out) hb); have n4_ := Aside0.mk (below_step (by repeat (first | (with_reducible first | exact HB.out | apply below_alloc | apply pw_below_drewN | apply below_drew1 | refine below_set ?_ GE166.out) | exact HB.out)) hb); clear HO_167000; clear HO170; clear HO173; clear BK166; clear HB; have HO_167000 := n0_; have HO170 := n1_; have HO173 := n2_; have BK166 := n3_; have HB := n4_; clear n0_ n1_ n2_ n3_ n4_; (try clear hb); (try clear hb2); (try clear hk); (try clear hi); obtain ⟨Ao35, co35, eo35, _⟩ := Kd.Z_slice HO173.out; subst eo35))
          go_ret
          exact ⟨by first | rfl | (simp [errW_none, errW_some] <;> rfl) | (simp [*, errW_none, errW_some] <;> rfl), by repeat (first | (with_reducible first | exact HB.out | apply below_alloc | apply pw_below_drewN | apply below_drew1 | refine below_set ?_ GE166.out) | exact HB.out)⟩
        · replace c26 := Bool.eq_false_iff.mpr c26
          subst c26
          have H1 : (some false) = some r := by rw [if_neg (show ¬ (false = true) by decide)] at H; exact H
          clear H
          have H := H1
          clear H1
          obtain rfl := Option.some.inj H
          try go_wp2
          have n0_ := Aside0.mk (Kd.S_drew HO_167000.out)
          have n1_ := Aside0.mk (blk_drew BK166.out)
          have n2_ := Aside0.mk (below_drew1 HB.out)
          clear HO_167000
          clear BK166
          clear HB
          have HO_167000 := n0_
          have BK166 := n1_
          have HB := n2_
          clear n0_ n1_ n2_
          refine start_ (n := 8) (S := fun w' => w'.cell? ⟨gb166, 0, none⟩ = some (u167000) ∧ w'.cell? ⟨gb166, 1, none⟩ = some (.slice none 0 0) ∧ w'.cell? ⟨gb166, 2, none⟩ = some (.slice none 0 0) ∧ w'.cell? ⟨gb166, 3, none⟩ = some (.int .i64 0)) (ds := []) #[false, false, false, false, false, false, false, false] (by kernel_rfl) rfl rfl ⟨(blk_cell BK166.out 0).trans rfl, (blk_cell BK166.out 1).trans rfl, (blk_cell BK166.out 2).trans rfl, (blk_cell BK166.out 3).trans rfl⟩ (fun hHeld => ?_); refine with_tabW estafettelaw16_AliasLoops.tab7 estafettelaw16_AliasLoops.bits7 (fun HT_ HW_ => ?_)
          generalize wr.drew = w36 at HO_167000 BK166 HB hHeld ⊢
          refine pure_ (i := 1) (N := some 43) (v := ?_) (a' := ?_) #[false, true, false, false, false, false, false, false] rfl rfl (any_of HT_.out (by kernel_rfl)) (fun _ _ _ h => h) (Or.inl ⟨by rfl, ?_⟩) ?_ ?_
          rotate_left
          · intro w'
            go_simp
            with_reducible rfl
          rotate_left
          · simp only [Act.put, List.setIfInBounds_toArray, List.set_cons_zero, List.set_cons_succ, i64_w, i32_w]
            rfl
          refine pure_ (i := 2) (N := some 44) (v := ?_) (a' := ?_) #[false, true, true, false, false, false, false, false] rfl rfl (any_of HT_.out (by kernel_rfl)) (fun _ _ _ h => h) (Or.inl ⟨by rfl, ?_⟩) ?_ ?_
          rotate_left
          · intro w'
            go_simp
            with_reducible rfl
          rotate_left
          · simp only [Act.put, List.setIfInBounds_toArray, List.set_cons_zero, List.set_cons_succ, i64_w, i32_w]
            rfl
          refine pure_ (i := 3) (N := some 45) (v := ?_) (a' := ?_) #[false, true, true, true, false, false, false, false] rfl rfl (any_of HT_.out (by kernel_rfl)) (fun _ _ _ h => h) (Or.inl ⟨by rfl, ?_⟩) ?_ ?_
          rotate_left
          · intro w'
            go_simp
            with_reducible rfl
          rotate_left
          · simp only [Act.put, List.setIfInBounds_toArray, List.set_cons_zero, List.set_cons_succ, i64_w, i32_w]
            rfl
          refine take_ (i := 0) (N := some 42) (v := ?_) (a' := ?_) #[true, true, true, true, false, false, false, false] rfl rfl (take_ofW HT_.out HW_.out (by kernel_rfl)) (fun _ _ _ h => h) (Or.inl ⟨by rfl, ?_⟩) hHeld ?_ ?_
          rotate_left
          · rintro w' ⟨s0, s1, s2, s3⟩
            go_simp
            with_reducible rfl
          rotate_left
          · simp only [Act.put, List.setIfInBounds_toArray, List.set_cons_zero, List.set_cons_succ, i64_w, i32_w]
            rfl
          refine one_ (i := 4) (N := some 46) #[true, true, true, true, true, false, false, false] rfl rfl (one_of HT_.out (by kernel_rfl)) (by decide) (fun K hK => ?_)
          refine goes_ Tryd.func6 (by kernel_rfl) rfl #[.int .i64 (wrap64 (a1)), .int .i64 (wrap64 ((wrap64 (Int.tmod a0 40)) + 1))] (by rfl) rfl rfl (by (try simp only [List.map_toArray, List.map_cons, List.map_nil]); first | done | rfl | (simp only [List.length_drop, List.length_take]; rfl)) ?_
          with_reducible refine (PB.estafettelaw16_name.calls k1 (wrap64 (a1)) (wrap64 ((wrap64 (Int.tmod a0 40)) + 1)) t167 _ A23.out).mono ?_
          rintro e w37 ⟨rfl, hb⟩
          refine ⟨_, rfl, ?_⟩
          have n0_ := Aside0.mk (Kd.S_below (by (with_reducible repeat (first | apply Kd.S_alloc | apply Kd.S_drewN | apply Kd.S_drew)); exact HO_167000.out) hb)
          have n1_ := Aside0.mk (blk_below (g := gb166) (o := .cells #[u167000, .slice none 0 0, .slice none 0 0, .int .i64 0] 26 (0, 0)) (by (with_reducible repeat (first | refine blk_drewN ?_ _ | refine blk_drew ?_ | refine blk_alloc ?_ _)); exact BK166.out) hb)
          have n2_ := Aside0.mk (below_step (by repeat (first | (with_reducible first | exact HB.out | apply below_alloc | apply pw_below_drewN | apply below_drew1 | refine below_set ?_ GE166.out) | exact HB.out)) hb)
          clear HO_167000
          clear BK166
          clear HB
          have HO_167000 := n0_
          have BK166 := n1_
          have HB := n2_
          clear n0_ n1_ n2_
          (try clear hb)
          (try clear hb2)
          (try clear hk)
          (try clear hi)
          refine hK.out _ _ ⟨(blk_cell BK166.out 0).trans rfl, (blk_cell BK166.out 1).trans rfl, (blk_cell BK166.out 2).trans rfl, (blk_cell BK166.out 3).trans rfl⟩ (fun hHeld => ?_)
          clear hK K
          refine norm_ (a' := ?_) ?_ ?_
          rotate_left
          · show Act.put _ (some 46) _ = _
            simp only [Act.put, List.setIfInBounds_toArray, List.set_cons_zero, List.set_cons_succ, i64_w, i32_w]
            rfl
          refine one_ (i := 5) (N := some 47) #[true, true, true, true, true, true, false, false] rfl rfl (one_of HT_.out (by kernel_rfl)) (by decide) (fun K hK => ?_)
          refine Kd.R_lit_step Kd.string _ 9 ?hg (N := 47) ?hd (xs := ([t167] : List ByteArray)) (inner := [.string t167]) (ok := fun _ => True) (okp := fun _ => True) ?hr ?hp (fun _ hk => hk) trivial (Below.refl _ _) (Nat.le_refl _) (by simp) ?_; (case hd => rfl); (case hg => rfl); (case hr => first | (go_simp; done) | (go_simp; rfl)); (case hp => exact (Reps.one (show Kd.M Kd.string _ _ _ t167 [.string t167] from rfl) (Reps.none _ _)))
          intro v169 w38 ho39 hb hg_ hnew_
          clear hg_ hnew_
          (first | rw [← Ny168.out] at ho39 | (simp only [Int.reduceToNat] at ho39; rw [← Ny168.out] at ho39))
          have n0_ := Aside0.mk (Kd.S_elder' (by (with_reducible repeat (first | apply Kd.S_alloc | apply Kd.S_drewN | apply Kd.S_drew)); exact HO_167000.out) (Kd.R_base ho39) hb)
          have n1_ := Aside0.mk (Kd.R_lower ho39 (below_size (by repeat (first | (with_reducible first | exact HB.out | apply below_alloc | apply pw_below_drewN | apply below_drew1 | refine below_set ?_ GE166.out) | exact HB.out))))
          have n2_ := Aside0.mk (blk_below (g := gb166) (o := .cells #[u167000, .slice none 0 0, .slice none 0 0, .int .i64 0] 26 (0, 0)) (by (with_reducible repeat (first | refine blk_drewN ?_ _ | refine blk_drew ?_ | refine blk_alloc ?_ _)); exact BK166.out) hb)
          have n3_ := Aside0.mk (below_step (by repeat (first | (with_reducible first | exact HB.out | apply below_alloc | apply pw_below_drewN | apply below_drew1 | refine below_set ?_ GE166.out) | exact HB.out)) hb)
          clear HO_167000
          clear BK166
          clear HB
          have HO_167000 := n0_
          have HO170 := n1_
          have BK166 := n2_
          have HB := n3_
          clear n0_ n1_ n2_ n3_
          clear hb ho39
          obtain ⟨Ao40, co40, eo40⟩ := Kd.S_slice HO_167000.out
          (first | subst eo40 | (injection eo40 with f1_ f2_ f3_; have f4_ := f1_.symm; have f5_ := f3_.symm; clear f1_ f2_ f3_; subst f4_; subst f5_))
          obtain ⟨Ao41, co41, eo41⟩ := Kd.R_slice HO170.out
          (first | subst eo41 | (injection eo41 with f1_ f2_ f3_; have f4_ := f1_.symm; have f5_ := f3_.symm; clear f1_ f2_ f3_; subst f4_; subst f5_))
          refine hK.out _ _ ⟨(blk_cell BK166.out 0).trans rfl, (blk_cell BK166.out 1).trans rfl, (blk_cell BK166.out 2).trans rfl, (blk_cell BK166.out 3).trans rfl⟩ (fun hHeld => ?_)
          clear hK K
          refine norm_ (a' := ?_) ?_ ?_
          rotate_left
          · show Act.put _ (some 47) _ = _
            simp only [Act.put, List.setIfInBounds_toArray, List.set_cons_zero, List.set_cons_succ, i64_w, i32_w]
            rfl
          refine one_ (i := 6) (N := some 48) #[true, true, true, true, true, true, true, false] rfl rfl (one_of HT_.out (by kernel_rfl)) (by decide) (fun K hK => ?_)
          refine goes_ Tryd.func8 (by kernel_rfl) rfl #[.agg #[.slice Ao40 x167000_1.length co40, .slice none 0 0, .slice none 0 0, .int .i64 0], .slice Ao41 y168.length co41] (by rfl) rfl rfl (by (try simp only [List.map_toArray, List.map_cons, List.map_nil]); first | done | rfl | (simp only [List.length_drop, List.length_take]; rfl)) ?_
          refine (Hand.alias_Expand.calls k1 _ _ x167000_1 _ _ ([] : List (S96)) _ _ ([] : List (S98)) 0 _ _ y168 t171 _ ?side1 ?side2 ?side3 ?side4 ?side5 ?side6 ?side7 ?side8 A24.out).mono ?_
          (case side1 => repeat (first | exact (Kd.S_reads' HO_167000.out).2.2 | (with_reducible refine Kd.C_alloc ?_ _) | (with_reducible refine Kd.C_drewN ?_ _) | (with_reducible refine Kd.C_drew ?_)))
          (case side2 => exact (Kd.S_reads' HO_167000.out).2.1)
          (case side3 => exact Kd.C_nil _ _)
          (case side4 => exact Nat.le_refl _)
          (case side5 => exact Kd.C_nil _ _)
          (case side6 => exact Nat.le_refl _)
          (case side7 => repeat (first | exact (Kd.R_reads' HO170.out).2.2 | (with_reducible refine Kd.C_alloc ?_ _) | (with_reducible refine Kd.C_drewN ?_ _) | (with_reducible refine Kd.C_drew ?_)))
          (case side8 => exact (Kd.R_reads' HO170.out).2.1)
          rintro e w42 ⟨v172, rfl, ho0, hb⟩
          refine ⟨_, rfl, ?_⟩
          have n0_ := Aside0.mk (Kd.S_elder' (by (with_reducible repeat (first | apply Kd.S_alloc | apply Kd.S_drewN | apply Kd.S_drew)); exact HO_167000.out) (Kd.Z_base ho0) hb)
          have n1_ := Aside0.mk (Kd.R_elder' (by (with_reducible repeat (first | apply Kd.R_alloc | apply Kd.R_drewN | apply Kd.R_drew)); exact HO170.out) (Kd.Z_base ho0) hb)
          have n2_ := Aside0.mk (Kd.Z_lower (Kd.Z_new' ho0 (Kd.R_lt (by (with_reducible repeat (first | apply Kd.R_alloc | apply Kd.R_drewN | apply Kd.R_drew)); exact HO170.out))) (below_size (by repeat (first | (with_reducible first | exact HB.out | apply below_alloc | apply pw_below_drewN | apply below_drew1 | refine below_set ?_ GE166.out) | exact HB.out))))
          have n3_ := Aside0.mk (blk_below (g := gb166) (o := .cells #[.slice Ao40 x167000_1.length co40, .slice none 0 0, .slice none 0 0, .int .i64 0] 26 (0, 0)) (by (with_reducible repeat (first | refine blk_drewN ?_ _ | refine blk_drew ?_ | refine blk_alloc ?_ _)); exact BK166.out) hb)
          have n4_ := Aside0.mk (below_step (by repeat (first | (with_reducible first | exact HB.out | apply below_alloc | apply pw_below_drewN | apply below_drew1 | refine below_set ?_ GE166.out) | exact HB.out)) hb)
          clear HO_167000
          clear HO170
          clear BK166
          clear HB
          have HO_167000 := n0_
          have HO170 := n1_
          have HO173 := n2_
          have BK166 := n3_
          have HB := n4_
          clear n0_ n1_ n2_ n3_ n4_
          (try clear hb)
          (try clear hb2)
          (try clear hk)
          (try clear hi)
          (try clear ho0)
          refine hK.out _ _ ⟨(blk_cell BK166.out 0).trans rfl, (blk_cell BK166.out 1).trans rfl, (blk_cell BK166.out 2).trans rfl, (blk_cell BK166.out 3).trans rfl⟩ (fun hHeld => ?_)
          clear hK K
          refine norm_ (a' := ?_) ?_ ?_
          rotate_left
          · show Act.put _ (some 48) _ = _
            simp only [Act.put, List.setIfInBounds_toArray, List.set_cons_zero, List.set_cons_succ, i64_w, i32_w]
            rfl
          refine pure_ (i := 7) (N := some 8) (v := ?_) (a' := ?_) #[true, true, true, true, true, true, true, true] rfl rfl (any_of HT_.out (by kernel_rfl)) (fun _ _ _ h => h) (Or.inl ⟨by rfl, ?_⟩) ?_ ?_
          rotate_left
          · intro w'
            go_simp
            with_reducible rfl
          rotate_left
          · simp only [Act.put, List.setIfInBounds_toArray, List.set_cons_zero, List.set_cons_succ, i64_w, i32_w]
            rfl
          refine done_ (done_of HT_.out (by kernel_rfl)) ?_
          try go_wp2_with (first | ((with_reducible refine gate_callee (f := 9) rfl ?_); refine goesL_ (some 49) rfl rfl Tryd.func9 (by kernel_rfl) rfl #[] rfl (by (try simp only [List.map_toArray, List.map_cons, List.map_nil]); first | done | rfl | (simp only [List.length_drop, List.length_take]; rfl)) ?_; (with_reducible refine (estafettelaw16_answers.calls k1  false _ A25.out).mono ?_); rintro e w43 ⟨rfl, hb⟩; refine ⟨_, rfl, ?_⟩; have n0_ := Aside0.mk (Kd.S_below (by (with_reducible repeat (first | apply Kd.S_alloc | apply Kd.S_drewN | apply Kd.S_drew)); exact HO_167000.out) hb); have n1_ := Aside0.mk (Kd.R_below (by (with_reducible repeat (first | apply Kd.R_alloc | apply Kd.R_drewN | apply Kd.R_drew)); exact HO170.out) hb); have n2_ := Aside0.mk (Kd.Z_below (by (with_reducible repeat (first | apply Kd.Z_alloc | apply Kd.Z_drewN | apply Kd.Z_drew)); exact HO173.out) hb); have n3_ := Aside0.mk (blk_below (g := gb166) (o := .cells #[.slice Ao40 x167000_1.length co40, .slice none 0 0, .slice none 0 0, .int .i64 0] 26 (0, 0)) (by (with_reducible repeat (first | refine blk_drewN ?_ _ | refine blk_drew ?_ | refine blk_alloc ?_ _)); exact BK166.out) hb); have n4_ := Aside0.mk (below_step (by repeat (first | (with_reducible first | exact HB.out | apply below_alloc | apply pw_below_drewN | apply below_drew1 | refine below_set ?_ GE166.out) | exact HB.out)) hb); clear HO_167000; clear HO170; clear HO173; clear BK166; clear HB; have HO_167000 := n0_; have HO170 := n1_; have HO173 := n2_; have BK166 := n3_; have HB := n4_; clear n0_ n1_ n2_ n3_ n4_; (try clear hb); (try clear hb2); (try clear hk); (try clear hi)))
          go_ret
          exact ⟨by first | rfl | (simp [errW_none, errW_some] <;> rfl) | (simp [*, errW_none, errW_some] <;> rfl), by repeat (first | (with_reducible first | exact HB.out | apply below_alloc | apply pw_below_drewN | apply below_drew1 | refine below_set ?_ GE166.out) | exact HB.out)⟩

/-- THE ONE PURE STATEMENT of estafettelaw16_AliasLoops: yours. -/
def estafettelaw16_AliasLoops.Pure : Prop := ∀ (a0 : Int) (a1 : Int), (Lit.int .u8 a0).wf = true → (Lit.int .u8 a1).wf = true → ∃ k, estafettelaw16_AliasLoops.f k a0 a1 = some true
theorem estafettelaw16_AliasLoops.walk (P : estafettelaw16_AliasLoops.Pure) (a0 : Int) (a1 : Int) (w : World) (w0 : (Lit.int .u8 a0).wf = true) (w1 : (Lit.int .u8 a1).wf = true) :
    Calls Tryd.prog 3 #[.int .u8 a0, .int .u8 a1] w fun e w' => e = .returned (.bool true) ∧ Below w.heap.size w w' := by
  obtain ⟨k, h⟩ := P a0 a1 w0 w1
  refine (estafettelaw16_AliasLoops.calls k a0 a1 true w h).mono ?_
  rintro e w' ⟨rfl, hd⟩
  exact ⟨rfl, hd⟩

end Go.Proofs.YtjkaicfakccmiaaDoor.PC
