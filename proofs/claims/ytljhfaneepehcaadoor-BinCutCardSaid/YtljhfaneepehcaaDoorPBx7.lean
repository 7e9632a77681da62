/- For every input: what the functions below return, or the statement that this text proves. Written by a program of this claim.s author (a turned print). -/
import Derived.Test.YtljhfaneepehcaaDoorPBx0
import Derived.Test.YtljhfaneepehcaaDoorPBx5
import Derived.Test.YtljhfaneepehcaaDoorPBx6
namespace Go.Proofs.YtljhfaneepehcaaDoor.PB
open Go.RowKit Go.Proofs.YtljhfaneepehcaaDoorW.PrintWords Go.Proofs.YtljhfaneepehcaaDoorW.PrintLast Go.Proofs.YtljhfaneepehcaaDoorW.PrintMore
attribute [local go_sem] max2_int min2_int max_two min_two max_three min_three max_four min_four   -- for this text's walks alone
set_option linter.unusedVariables false
set_option linter.unusedSimpArgs false

/-! ### estafetteref08_Good: function 10 -/
mutual
def estafetteref08_Good.l0 : Nat → List Int → Int → Int → Int → Int → Int → Int → ByteArray → List ByteArray → List Int → List ByteArray → Option (Bool)
  | 0, _, _, _, _, _, _, _, _, _, _, _ => none
  | k + 1, x3, x4, x234000, x234001, x234002, x234003, x234004, x234005, x234006, x234007, x234008 => if x4 < 5 then (if 0 ≤ x4 then (if x4 < (x3.length : Int) then (if (rd x3 x4) < 0 then (some false) else (if (rd x3 x4) > 1099511627776 then (some false) else (estafetteref08_Good.l0 k x3 (wrap64 (x4 + 1)) x234000 x234001 x234002 x234003 x234004 x234005 x234006 x234007 x234008))) else (none)) else (none)) else (if x234005.toList = ([] : List UInt8) then (if (x234006.length : Int) < 1 then (estafetteref08_Good.j1 k true x234000 x234001 x234002 x234003 x234004 x234005 x234006 x234007 x234008) else (if (x234006.length : Int) > 20 then (estafetteref08_Good.j1 k true x234000 x234001 x234002 x234003 x234004 x234005 x234006 x234007 x234008) else (if (x234007.length : Int) > 50 then (estafetteref08_Good.j1 k true x234000 x234001 x234002 x234003 x234004 x234005 x234006 x234007 x234008) else ((estafetteref01_Good.f k x234008).bind fun t239 => (estafetteref08_Good.j1 k (!t239) x234000 x234001 x234002 x234003 x234004 x234005 x234006 x234007 x234008))))) else ((estafetteref08_mailbox.f k x234005).bind fun t240 => (if t240 = true then (if (x234006.length : Int) < 1 then (estafetteref08_Good.j1 k true x234000 x234001 x234002 x234003 x234004 x234005 x234006 x234007 x234008) else (if (x234006.length : Int) > 20 then (estafetteref08_Good.j1 k true x234000 x234001 x234002 x234003 x234004 x234005 x234006 x234007 x234008) else (if (x234007.length : Int) > 50 then (estafetteref08_Good.j1 k true x234000 x234001 x234002 x234003 x234004 x234005 x234006 x234007 x234008) else ((estafetteref01_Good.f k x234008).bind fun t241 => (estafetteref08_Good.j1 k (!t241) x234000 x234001 x234002 x234003 x234004 x234005 x234006 x234007 x234008))))) else (estafetteref08_Good.j1 k true x234000 x234001 x234002 x234003 x234004 x234005 x234006 x234007 x234008))))
def estafetteref08_Good.j1 : Nat → Bool → Int → Int → Int → Int → Int → ByteArray → List ByteArray → List Int → List ByteArray → Option (Bool)
  | 0, _, _, _, _, _, _, _, _, _, _ => none
  | k + 1, x66, x234000, x234001, x234002, x234003, x234004, x234005, x234006, x234007, x234008 => if x66 = true then (some false) else (estafetteref08_Good.l1 k 0 x234000 x234001 x234002 x234003 x234004 x234005 x234006 x234007 x234008)
def estafetteref08_Good.l1 : Nat → Int → Int → Int → Int → Int → Int → ByteArray → List ByteArray → List Int → List ByteArray → Option (Bool)
  | 0, _, _, _, _, _, _, _, _, _, _ => none
  | k + 1, x5, x234000, x234001, x234002, x234003, x234004, x234005, x234006, x234007, x234008 => if x5 < (x234006.length : Int) then (if 0 ≤ x5 then ((estafetteref08_mailbox.f k (rdOf ByteArray.empty x234006 x5)).bind fun t243 => (if t243 = true then (estafetteref08_Good.l1 k (wrap64 (x5 + 1)) x234000 x234001 x234002 x234003 x234004 x234005 x234006 x234007 x234008) else (some false))) else (none)) else (estafetteref08_Good.l2 k 0 x234000 x234001 x234002 x234003 x234004 x234005 x234006 x234007 x234008)
def estafetteref08_Good.l2 : Nat → Int → Int → Int → Int → Int → Int → ByteArray → List ByteArray → List Int → List ByteArray → Option (Bool)
  | 0, _, _, _, _, _, _, _, _, _, _ => none
  | k + 1, x6, x234000, x234001, x234002, x234003, x234004, x234005, x234006, x234007, x234008 => if x6 < (x234007.length : Int) then (if 0 ≤ x6 then (if (rd x234007 x6) < 0 then (some false) else (if (rd x234007 x6) > 2 then (some false) else (estafetteref08_Good.l2 k (wrap64 (x6 + 1)) x234000 x234001 x234002 x234003 x234004 x234005 x234006 x234007 x234008))) else (none)) else (some true)
end
def estafetteref08_Good.f (k : Nat) (a0_0 : Int) (a0_1 : Int) (a0_2 : Int) (a0_3 : Int) (a0_4 : Int) (a0_5 : ByteArray) (l0_6 : List ByteArray) (l0_7 : List Int) (l0_8 : List ByteArray) : Option (Bool) := estafetteref08_Good.l0 k (([a0_0, a0_1, a0_2, a0_3, a0_4] : List Int)) 0 a0_0 a0_1 a0_2 a0_3 a0_4 a0_5 l0_6 l0_7 l0_8
theorem estafetteref08_Good.mono_l : ∀ k, (∀ y0 y1 y2 y3 y4 y5 y6 y7 y8 y9 y10, LeO (estafetteref08_Good.l0 k y0 y1 y2 y3 y4 y5 y6 y7 y8 y9 y10) (estafetteref08_Good.l0 (k + 1) y0 y1 y2 y3 y4 y5 y6 y7 y8 y9 y10)) ∧ (∀ y0 y1 y2 y3 y4 y5 y6 y7 y8 y9, LeO (estafetteref08_Good.j1 k y0 y1 y2 y3 y4 y5 y6 y7 y8 y9) (estafetteref08_Good.j1 (k + 1) y0 y1 y2 y3 y4 y5 y6 y7 y8 y9)) ∧ (∀ y0 y1 y2 y3 y4 y5 y6 y7 y8 y9, LeO (estafetteref08_Good.l1 k y0 y1 y2 y3 y4 y5 y6 y7 y8 y9) (estafetteref08_Good.l1 (k + 1) y0 y1 y2 y3 y4 y5 y6 y7 y8 y9)) ∧ (∀ y0 y1 y2 y3 y4 y5 y6 y7 y8 y9, LeO (estafetteref08_Good.l2 k y0 y1 y2 y3 y4 y5 y6 y7 y8 y9) (estafetteref08_Good.l2 (k + 1) y0 y1 y2 y3 y4 y5 y6 y7 y8 y9))
  | 0 => ⟨fun _ _ _ _ _ _ _ _ _ _ _ r h => by simp [estafetteref08_Good.l0] at h, fun _ _ _ _ _ _ _ _ _ _ r h => by simp [estafetteref08_Good.j1] at h, fun _ _ _ _ _ _ _ _ _ _ r h => by simp [estafetteref08_Good.l1] at h, fun _ _ _ _ _ _ _ _ _ _ r h => by simp [estafetteref08_Good.l2] at h⟩
  | k + 1 => by
    obtain ⟨ih0, ih1, ih2, ih3⟩ := estafetteref08_Good.mono_l k
    refine ⟨?_, ?_, ?_, ?_⟩
    · intro y0 y1 y2 y3 y4 y5 y6 y7 y8 y9 y10
      unfold estafetteref08_Good.l0
      repeat' first
      | (with_reducible exact ih0 _ _ _ _ _ _ _ _ _ _ _)
      | (with_reducible exact ih1 _ _ _ _ _ _ _ _ _ _)
      | (with_reducible exact ih2 _ _ _ _ _ _ _ _ _ _)
      | (with_reducible exact ih3 _ _ _ _ _ _ _ _ _ _)
      | (with_reducible exact estafetteref01_Good.mono _ _)
      | (with_reducible exact estafetteref08_mailbox.mono _ _)
      | (with_reducible exact LeO.refl _)
      | (with_reducible exact LeO.none _)
      | (with_reducible refine LeO.ite ?_ ?_)
      | (with_reducible refine LeO.bind ?_ (fun _ => ?_))
      | exact ih0 _ _ _ _ _ _ _ _ _ _ _
      | exact ih1 _ _ _ _ _ _ _ _ _ _
      | exact ih2 _ _ _ _ _ _ _ _ _ _
      | exact ih3 _ _ _ _ _ _ _ _ _ _
      | exact estafetteref01_Good.mono _ _
      | exact estafetteref08_mailbox.mono _ _
      | exact LeO.none _
      | refine LeO.ite ?_ ?_
      | refine LeO.bind ?_ (fun _ => ?_)
    · intro y0 y1 y2 y3 y4 y5 y6 y7 y8 y9
      unfold estafetteref08_Good.j1
      repeat' first
      | (with_reducible exact ih0 _ _ _ _ _ _ _ _ _ _ _)
      | (with_reducible exact ih1 _ _ _ _ _ _ _ _ _ _)
      | (with_reducible exact ih2 _ _ _ _ _ _ _ _ _ _)
      | (with_reducible exact ih3 _ _ _ _ _ _ _ _ _ _)
      | (with_reducible exact estafetteref01_Good.mono _ _)
      | (with_reducible exact estafetteref08_mailbox.mono _ _)
      | (with_reducible exact LeO.refl _)
      | (with_reducible exact LeO.none _)
      | (with_reducible refine LeO.ite ?_ ?_)
      | (with_reducible refine LeO.bind ?_ (fun _ => ?_))
      | exact ih0 _ _ _ _ _ _ _ _ _ _ _
      | exact ih1 _ _ _ _ _ _ _ _ _ _
      | exact ih2 _ _ _ _ _ _ _ _ _ _
      | exact ih3 _ _ _ _ _ _ _ _ _ _
      | exact estafetteref01_Good.mono _ _
      | exact estafetteref08_mailbox.mono _ _
      | exact LeO.none _
      | refine LeO.ite ?_ ?_
      | refine LeO.bind ?_ (fun _ => ?_)
    · intro y0 y1 y2 y3 y4 y5 y6 y7 y8 y9
      unfold estafetteref08_Good.l1
      repeat' first
      | (with_reducible exact ih0 _ _ _ _ _ _ _ _ _ _ _)
      | (with_reducible exact ih1 _ _ _ _ _ _ _ _ _ _)
      | (with_reducible exact ih2 _ _ _ _ _ _ _ _ _ _)
      | (with_reducible exact ih3 _ _ _ _ _ _ _ _ _ _)
      | (with_reducible exact estafetteref01_Good.mono _ _)
      | (with_reducible exact estafetteref08_mailbox.mono _ _)
      | (with_reducible exact LeO.refl _)
      | (with_reducible exact LeO.none _)
      | (with_reducible refine LeO.ite ?_ ?_)
      | (with_reducible refine LeO.bind ?_ (fun _ => ?_))
      | exact ih0 _ _ _ _ _ _ _ _ _ _ _
      | exact ih1 _ _ _ _ _ _ _ _ _ _
      | exact ih2 _ _ _ _ _ _ _ _ _ _
      | exact ih3 _ _ _ _ _ _ _ _ _ _
      | exact estafetteref01_Good.mono _ _
      | exact estafetteref08_mailbox.mono _ _
      | exact LeO.none _
      | refine LeO.ite ?_ ?_
      | refine LeO.bind ?_ (fun _ => ?_)
    · intro y0 y1 y2 y3 y4 y5 y6 y7 y8 y9
      unfold estafetteref08_Good.l2
      repeat' first
      | (with_reducible exact ih0 _ _ _ _ _ _ _ _ _ _ _)
      | (with_reducible exact ih1 _ _ _ _ _ _ _ _ _ _)
      | (with_reducible exact ih2 _ _ _ _ _ _ _ _ _ _)
      | (with_reducible exact ih3 _ _ _ _ _ _ _ _ _ _)
      | (with_reducible exact estafetteref01_Good.mono _ _)
      | (with_reducible exact estafetteref08_mailbox.mono _ _)
      | (with_reducible exact LeO.refl _)
      | (with_reducible exact LeO.none _)
      | (with_reducible refine LeO.ite ?_ ?_)
      | (with_reducible refine LeO.bind ?_ (fun _ => ?_))
      | exact ih0 _ _ _ _ _ _ _ _ _ _ _
      | exact ih1 _ _ _ _ _ _ _ _ _ _
      | exact ih2 _ _ _ _ _ _ _ _ _ _
      | exact ih3 _ _ _ _ _ _ _ _ _ _
      | exact estafetteref01_Good.mono _ _
      | exact estafetteref08_mailbox.mono _ _
      | exact LeO.none _
      | refine LeO.ite ?_ ?_
      | refine LeO.bind ?_ (fun _ => ?_)
theorem estafetteref08_Good.mono : ∀ a0 a1 a2 a3 a4 a5 a6 a7 a8 k, LeO (estafetteref08_Good.f k a0 a1 a2 a3 a4 a5 a6 a7 a8) (estafetteref08_Good.f (k + 1) a0 a1 a2 a3 a4 a5 a6 a7 a8) := by
  intro a0 a1 a2 a3 a4 a5 a6 a7 a8 k
  obtain ⟨ih0, ih1, ih2, ih3⟩ := estafetteref08_Good.mono_l k
  unfold estafetteref08_Good.f
  repeat' first
      | (with_reducible exact ih0 _ _ _ _ _ _ _ _ _ _ _)
      | (with_reducible exact ih1 _ _ _ _ _ _ _ _ _ _)
      | (with_reducible exact ih2 _ _ _ _ _ _ _ _ _ _)
      | (with_reducible exact ih3 _ _ _ _ _ _ _ _ _ _)
      | (with_reducible exact estafetteref01_Good.mono _ _)
      | (with_reducible exact estafetteref08_mailbox.mono _ _)
      | (with_reducible exact LeO.refl _)
      | (with_reducible exact LeO.none _)
      | (with_reducible refine LeO.ite ?_ ?_)
      | (with_reducible refine LeO.bind ?_ (fun _ => ?_))
      | exact ih0 _ _ _ _ _ _ _ _ _ _ _
      | exact ih1 _ _ _ _ _ _ _ _ _ _
      | exact ih2 _ _ _ _ _ _ _ _ _ _
      | exact ih3 _ _ _ _ _ _ _ _ _ _
      | exact estafetteref01_Good.mono _ _
      | exact estafetteref08_mailbox.mono _ _
      | exact LeO.none _
      | refine LeO.ite ?_ ?_
      | refine LeO.bind ?_ (fun _ => ?_)
set_option maxHeartbeats 8000000 in
set_option maxRecDepth 100000 in
theorem estafetteref08_Good.calls (k : Nat) (a0_0 : Int) (a0_1 : Int) (a0_2 : Int) (a0_3 : Int) (a0_4 : Int) (a0_5 : ByteArray) (A0_6 : Option Addr) (c0_6 : Nat) (l0_6 : List ByteArray) (A0_7 : Option Addr) (c0_7 : Nat) (l0_7 : List Int) (A0_8 : Option Addr) (c0_8 : Nat) (l0_8 : List ByteArray) (r : Bool) (w : World) (hr0_6 : Kd.C Kd.string w A0_6 l0_6.length l0_6) (hc0_6 : l0_6.length ≤ c0_6) (hr0_7 : Kd.C (Kd.int .i64) w A0_7 l0_7.length l0_7) (hc0_7 : l0_7.length ≤ c0_7) (hr0_8 : Kd.C Kd.string w A0_8 l0_8.length l0_8) (hc0_8 : l0_8.length ≤ c0_8) (h : estafetteref08_Good.f k a0_0 a0_1 a0_2 a0_3 a0_4 a0_5 l0_6 l0_7 l0_8 = some r) :
    Calls Tryd.prog 10 #[.agg #[.int .i64 a0_0, .int .i64 a0_1, .int .i64 a0_2, .int .i64 a0_3, .int .i64 a0_4, .string a0_5, .slice A0_6 l0_6.length c0_6, .slice A0_7 l0_7.length c0_7, .slice A0_8 l0_8.length c0_8]] w fun e w' => e = .returned (.bool r) ∧ Below w.heap.size w w' := by
  have hu25 := Tryd.underlying25
  have HR0_6 := Aside0.mk hr0_6
  have HC0_6 := Aside0.mk hc0_6
  clear hr0_6 hc0_6
  have HR0_7 := Aside0.mk hr0_7
  have HC0_7 := Aside0.mk hc0_7
  clear hr0_7 hc0_7
  have HR0_8 := Aside0.mk hr0_8
  have HC0_8 := Aside0.mk hc0_8
  clear hr0_8 hc0_8
  have HB := Aside0.mk (Below.refl w.heap.size w)
  have H : (estafetteref08_Good.l0 k (([a0_0, a0_1, a0_2, a0_3, a0_4] : List Int)) 0 a0_0 a0_1 a0_2 a0_3 a0_4 a0_5 l0_6 l0_7 l0_8) = some r := h
  clear h
  obtain ⟨y234, hy234⟩ : ∃ y_ : List Int, y_ = (([a0_0, a0_1, a0_2, a0_3, a0_4] : List Int)) := ⟨_, rfl⟩
  replace H : (estafetteref08_Good.l0 k y234 0 a0_0 a0_1 a0_2 a0_3 a0_4 a0_5 l0_6 l0_7 l0_8) = some r := by first | (rw [hy234]; with_reducible exact H) | (have H2_ := (Option.bind_some _ _).symm.trans H; rw [hy234]; with_reducible exact H2_) | (have H2_ := (Option.bind_some _ _).symm.trans H; with_reducible exact H2_) | with_reducible exact H | (rw [hy234]; exact H) | exact H
  have Ny234 := Aside0.mk hy234
  clear hy234
  have H' := Aside0.mk H
  clear H
  go_enter Tryd.func10, Tryd.ntmps10
  go_wp2_with (first | ((with_reducible refine gate_dst (N := 1) rfl ?_); (try (refine gate_guard (by rfl) ?_; dsimp only)); refine box_event ?hg (N := 1) ?hd (cs := #[.int .i64 a0_0, .int .i64 a0_1, .int .i64 a0_2, .int .i64 a0_3, .int .i64 a0_4, .string a0_5, .slice A0_6 l0_6.length c0_6, .slice A0_7 l0_7.length c0_7, .slice A0_8 l0_8.length c0_8]) (t := 25) ?hr ?_; (case hd => rfl); (case hg => rfl); (case hr => first | (go_simp; done) | (go_simp; rfl)); intro gb233 hg w2 hbox hb; have n0_ := Aside0.mk (below_step (by repeat (first | (with_reducible first | exact HB.out | apply below_alloc | apply pw_below_drewN | apply below_drew1) | exact HB.out)) hb); have n1_ := Aside0.mk (hbox); have n2_ := Aside0.mk ((by rw [hg]; exact (below_size (by repeat (first | (with_reducible first | exact HB.out | apply below_alloc | apply pw_below_drewN | apply below_drew1) | exact HB.out))) : w.heap.size ≤ gb233)); have n3_ := Aside0.mk ((by rw [hg]; exact (below_size (by repeat (first | (with_reducible first | exact HB.out | apply below_alloc | apply pw_below_drewN | apply below_drew1) | exact HB.out))) : w.heap.size ≤ gb233)); clear HB; have HB := n0_; have BK233 := n1_; have GW233 := n2_; have GE233 := n3_; clear n0_ n1_ n2_ n3_; clear hb hbox hg; have hcz3_0 : w2.cell? ⟨gb233, 0, none⟩ = some (.int .i64 a0_0) := (blk_cell BK233.out 0).trans rfl; have hcz3_1 : w2.cell? ⟨gb233, 1, none⟩ = some (.int .i64 a0_1) := (blk_cell BK233.out 1).trans rfl; have hcz3_2 : w2.cell? ⟨gb233, 2, none⟩ = some (.int .i64 a0_2) := (blk_cell BK233.out 2).trans rfl; have hcz3_3 : w2.cell? ⟨gb233, 3, none⟩ = some (.int .i64 a0_3) := (blk_cell BK233.out 3).trans rfl; have hcz3_4 : w2.cell? ⟨gb233, 4, none⟩ = some (.int .i64 a0_4) := (blk_cell BK233.out 4).trans rfl; have hcz3_5 : w2.cell? ⟨gb233, 5, none⟩ = some (.string a0_5) := (blk_cell BK233.out 5).trans rfl; have hcz3_6 : w2.cell? ⟨gb233, 6, none⟩ = some (.slice A0_6 l0_6.length c0_6) := (blk_cell BK233.out 6).trans rfl; have hcz3_7 : w2.cell? ⟨gb233, 7, none⟩ = some (.slice A0_7 l0_7.length c0_7) := (blk_cell BK233.out 7).trans rfl; have hcz3_8 : w2.cell? ⟨gb233, 8, none⟩ = some (.slice A0_8 l0_8.length c0_8) := (blk_cell BK233.out 8).trans rfl; have hfz3_0 := blk_frozen BK233.out 0; have hfz3_1 := blk_frozen BK233.out 1; have hfz3_2 := blk_frozen BK233.out 2; have hfz3_3 := blk_frozen BK233.out 3; have hfz3_4 := blk_frozen BK233.out 4; have hfz3_5 := blk_frozen BK233.out 5; have hfz3_6 := blk_frozen BK233.out 6; have hfz3_7 := blk_frozen BK233.out 7; have hfz3_8 := blk_frozen BK233.out 8) | ((with_reducible refine gate_dst (N := 17) rfl ?_); (try (refine gate_guard (by rfl) ?_; dsimp only)); refine Kd.R_lit (Kd.int .i64) _ 3 ?hg (N := 17) ?hd (xs := ([a0_0, a0_1, a0_2, a0_3, a0_4] : List Int)) (inner := [.int .i64 a0_0, .int .i64 a0_1, .int .i64 a0_2, .int .i64 a0_3, .int .i64 a0_4]) (ok := fun _ => True) (okp := fun _ => True) ?hr ?hp (fun _ hk => hk) trivial (Below.refl _ _) (Nat.le_refl _) (by simp) ?_; (case hd => rfl); (case hg => rfl); (case hr => first | (go_simp; done) | (go_simp; rfl)); (case hp => exact (Reps.one (show Kd.M (Kd.int .i64) _ _ _ a0_0 [.int .i64 a0_0] from rfl) (Reps.one (show Kd.M (Kd.int .i64) _ _ _ a0_1 [.int .i64 a0_1] from rfl) (Reps.one (show Kd.M (Kd.int .i64) _ _ _ a0_2 [.int .i64 a0_2] from rfl) (Reps.one (show Kd.M (Kd.int .i64) _ _ _ a0_3 [.int .i64 a0_3] from rfl) (Reps.one (show Kd.M (Kd.int .i64) _ _ _ a0_4 [.int .i64 a0_4] from rfl) (Reps.none _ _))))))); intro v235 w4 ho5 hb hg_ hnew_; clear hg_ hnew_; (first | rw [← Ny234.out] at ho5 | (simp only [Int.reduceToNat] at ho5; rw [← Ny234.out] at ho5)); have n0_ := Aside0.mk (Kd.R_lower ho5 (below_size (by repeat (first | (with_reducible first | exact HB.out | apply below_alloc | apply pw_below_drewN | apply below_drew1 | refine below_set ?_ GE233.out) | exact HB.out)))); have n1_ := Aside0.mk (blk_below (g := gb233) (o := .cells #[.int .i64 a0_0, .int .i64 a0_1, .int .i64 a0_2, .int .i64 a0_3, .int .i64 a0_4, .string a0_5, .slice A0_6 l0_6.length c0_6, .slice A0_7 l0_7.length c0_7, .slice A0_8 l0_8.length c0_8] 25 (0, 0)) (by (with_reducible repeat (first | refine blk_drewN ?_ _ | refine blk_drew ?_ | refine blk_alloc ?_ _)); exact BK233.out) hb); have n2_ := Aside0.mk (below_step (by repeat (first | (with_reducible first | exact HB.out | apply below_alloc | apply pw_below_drewN | apply below_drew1 | refine below_set ?_ GE233.out) | exact HB.out)) hb); clear BK233; clear HB; have HO236 := n0_; have BK233 := n1_; have HB := n2_; clear n0_ n1_ n2_; clear hb ho5))
  go_loopg [4] k (fun kq v4 w' => ∃ (x4_1 : Int), v4 = .int .i64 x4_1 ∧ Aside0 (estafetteref08_Good.l0 kq y234 x4_1 a0_0 a0_1 a0_2 a0_3 a0_4 a0_5 l0_6 l0_7 l0_8 = some r) ∧ Aside0 (kq ≤ k) ∧ Aside0 (Kd.R (Kd.int .i64) 3 w' w.heap.size (fun _ => True) v235 y234) ∧ Aside0 (w'.heap[gb233]? = some (.cells #[.int .i64 a0_0, .int .i64 a0_1, .int .i64 a0_2, .int .i64 a0_3, .int .i64 a0_4, .string a0_5, (.slice A0_6 l0_6.length c0_6), (.slice A0_7 l0_7.length c0_7), (.slice A0_8 l0_8.length c0_8)] 25 (0, 0))) ∧ Aside0 (Below w.heap.size w w'))
  case atStart => exact ⟨(0), (by first | rfl | (simp; done) | (simp [*]; done)), H', ⟨Nat.le_refl _⟩, ⟨by (with_reducible repeat (first | apply Kd.R_alloc | apply Kd.R_drewN | apply Kd.R_drew)); exact HO236.out⟩, ⟨by (with_reducible repeat (first | refine blk_drewN ?_ _ | refine blk_drew ?_ | refine blk_alloc ?_ _)); exact BK233.out⟩, ⟨by repeat (first | (with_reducible first | exact HB.out | apply below_alloc | apply pw_below_drewN | apply below_drew1 | refine below_set ?_ GE233.out) | exact HB.out)⟩⟩
  case round =>
    clear H'
    try clear c1
    try clear p2
    try clear hcz3_0
    try clear hcz3_1
    try clear hcz3_2
    try clear hcz3_3
    try clear hcz3_4
    try clear hcz3_5
    try clear hcz3_6
    try clear hcz3_7
    try clear hcz3_8
    try clear hfz3_0
    try clear hfz3_1
    try clear hfz3_2
    try clear hfz3_3
    try clear hfz3_4
    try clear hfz3_5
    try clear hfz3_6
    try clear hfz3_7
    try clear hfz3_8
    obtain ⟨x4_1, rfl, HA, HK1, HO_3, BK233, HB⟩ := hrel
    cases gk with
    | zero => exact absurd HA.out (by simp [estafetteref08_Good.l0])
    | succ k1 =>
      have H := HA.out
      clear HA
      simp only [estafetteref08_Good.l0] at H
      by_cases c6 : x4_1 < 5
      · rw [if_pos c6] at H
        have c6b0 : decide (x4_1 < 5) = true := decide_eq_true c6
        clear c6
        by_cases c7 : 0 ≤ x4_1
        · rw [if_pos c7] at H
          have c7b0 : decide (0 ≤ x4_1) = true := decide_eq_true c7
          clear c7
          by_cases c8 : x4_1 < (y234.length : Int)
          · rw [if_pos c8] at H
            have c8b0 : decide (x4_1 < (y234.length : Int)) = true := decide_eq_true c8
            clear c8
            by_cases c9 : (rd y234 x4_1) < 0
            · rw [if_pos c9] at H
              have c9b0 : decide ((rd y234 x4_1) < 0) = true := decide_eq_true c9
              clear c9
              obtain rfl := Option.some.inj H
              obtain ⟨Ao10, co10, eo10⟩ := Kd.R_slice HO_3.out
              subst eo10
              have p237 : 0 ≤ (x4_1 : Int) := of_decide_eq_true (by first | (with_reducible assumption) | assumption)
              have q237 : x4_1 < (y234.length : Int) := of_decide_eq_true (by first | (with_reducible assumption) | assumption)
              obtain ⟨ad237, e237, hx237_0⟩ := Kd.at_int (Kd.R_reads' HO_3.out).2.2 x4_1 p237 q237
              cases e237
              replace p237 := eq_true p237
              replace q237 := eq_true q237
              go_wp2
              go_ret
              exact ⟨by first | rfl | (simp [errW_none, errW_some] <;> rfl) | (simp [*, errW_none, errW_some] <;> rfl), by repeat (first | (with_reducible first | exact HB.out | apply below_alloc | apply pw_below_drewN | apply below_drew1 | refine below_set ?_ GE233.out) | exact HB.out)⟩
            · rw [if_neg c9] at H
              have c9b0 : decide ((rd y234 x4_1) < 0) = false := decide_eq_false c9
              clear c9
              by_cases c11 : (rd y234 x4_1) > 1099511627776
              · rw [if_pos c11] at H
                have c11b0 : decide (1099511627776 < (rd y234 x4_1)) = true := decide_eq_true c11
                clear c11
                obtain rfl := Option.some.inj H
                obtain ⟨Ao12, co12, eo12⟩ := Kd.R_slice HO_3.out
                subst eo12
                have p237 : 0 ≤ (x4_1 : Int) := of_decide_eq_true (by first | (with_reducible assumption) | assumption)
                have q237 : x4_1 < (y234.length : Int) := of_decide_eq_true (by first | (with_reducible assumption) | assumption)
                obtain ⟨ad237, e237, hx237_0⟩ := Kd.at_int (Kd.R_reads' HO_3.out).2.2 x4_1 p237 q237
                cases e237
                replace p237 := eq_true p237
                replace q237 := eq_true q237
                have p238 : 0 ≤ (x4_1 : Int) := of_decide_eq_true (by first | (with_reducible assumption) | assumption)
                have q238 : x4_1 < (y234.length : Int) := of_decide_eq_true (by first | (with_reducible assumption) | assumption)
                obtain ⟨ad238, e238, hx238_0⟩ := Kd.at_int (Kd.R_reads' HO_3.out).2.2 x4_1 p238 q238
                obtain rfl : ad237 = ad238 := (by injection e238)
                replace p238 := eq_true p238
                replace q238 := eq_true q238
                go_wp2
                go_ret
                exact ⟨by first | rfl | (simp [errW_none, errW_some] <;> rfl) | (simp [*, errW_none, errW_some] <;> rfl), by repeat (first | (with_reducible first | exact HB.out | apply below_alloc | apply pw_below_drewN | apply below_drew1 | refine below_set ?_ GE233.out) | exact HB.out)⟩
              · rw [if_neg c11] at H
                have c11b0 : decide (1099511627776 < (rd y234 x4_1)) = false := decide_eq_false c11
                clear c11
                have H' := Aside0.mk H
                clear H
                obtain ⟨Ao13, co13, eo13⟩ := Kd.R_slice HO_3.out
                subst eo13
                have p237 : 0 ≤ (x4_1 : Int) := of_decide_eq_true (by first | (with_reducible assumption) | assumption)
                have q237 : x4_1 < (y234.length : Int) := of_decide_eq_true (by first | (with_reducible assumption) | assumption)
                obtain ⟨ad237, e237, hx237_0⟩ := Kd.at_int (Kd.R_reads' HO_3.out).2.2 x4_1 p237 q237
                cases e237
                replace p237 := eq_true p237
                replace q237 := eq_true q237
                have p238 : 0 ≤ (x4_1 : Int) := of_decide_eq_true (by first | (with_reducible assumption) | assumption)
                have q238 : x4_1 < (y234.length : Int) := of_decide_eq_true (by first | (with_reducible assumption) | assumption)
                obtain ⟨ad238, e238, hx238_0⟩ := Kd.at_int (Kd.R_reads' HO_3.out).2.2 x4_1 p238 q238
                obtain rfl : ad237 = ad238 := (by injection e238)
                replace p238 := eq_true p238
                replace q238 := eq_true q238
                go_wp2
                go_roundg k1
                case measure => have := HK1.out; omega
                case rel => exact ⟨(wrap64 (x4_1 + 1)), (by first | rfl | (simp; done) | (simp [*]; done)), H', ⟨by have := HK1.out; omega⟩, ⟨by (with_reducible repeat (first | apply Kd.R_alloc | apply Kd.R_drewN | apply Kd.R_drew)); exact HO_3.out⟩, ⟨by (with_reducible repeat (first | refine blk_drewN ?_ _ | refine blk_drew ?_ | refine blk_alloc ?_ _)); exact BK233.out⟩, ⟨by repeat (first | (with_reducible first | exact HB.out | apply below_alloc | apply pw_below_drewN | apply below_drew1 | refine below_set ?_ GE233.out) | exact HB.out)⟩⟩
          · rw [if_neg c8] at H
            exact absurd H (by simp)
        · rw [if_neg c7] at H
          exact absurd H (by simp)
      · rw [if_neg c6] at H
        have c6b0 : decide (x4_1 < 5) = false := decide_eq_false c6
        clear c6
        have HC14 := Aside0.mk H
        clear H
        go_upto_region 7 with (fail)
        go_cut [66] (fun v66 wc => ∃ (kq : Nat) (x66_13 : Bool), v66 = .bool x66_13 ∧ Aside0 (estafetteref08_Good.j1 kq x66_13 a0_0 a0_1 a0_2 a0_3 a0_4 a0_5 l0_6 l0_7 l0_8 = some r) ∧ Aside0 (kq ≤ k1) ∧ Aside0 (wc.heap[gb233]? = some (.cells #[.int .i64 a0_0, .int .i64 a0_1, .int .i64 a0_2, .int .i64 a0_3, .int .i64 a0_4, .string a0_5, (.slice A0_6 l0_6.length c0_6), (.slice A0_7 l0_7.length c0_7), (.slice A0_8 l0_8.length c0_8)] 25 (0, 0))) ∧ Aside0 (Below w.heap.size w wc))
        case first =>
          have H := HC14.out
          clear HC14
          by_cases c15 : a0_5.toList = ([] : List UInt8)
          · rw [if_pos c15] at H
            have c15b0 : (a0_5.toList == ([] : List UInt8)) = true := beq_iff_eq.mpr c15
            have c15b1 : (a0_5.toList != ([] : List UInt8)) = false := bne_eq_false_iff_eq.mpr c15
            clear c15
            (first | rw [c15b0] | (simp only [i64_w, i32_w]; rw [c15b0]) | skip)
            by_cases c16 : (l0_6.length : Int) < 1
            · rw [if_pos c16] at H
              have c16b0 : decide ((l0_6.length : Int) < 1) = true := decide_eq_true c16
              have c16b1 : decide (l0_6.length < 1) = true := decide_eq_true (by omega)
              clear c16
              have H' := Aside0.mk H
              clear H
              have hcz17_0 : wr.cell? ⟨gb233, 0, none⟩ = some (.int .i64 a0_0) := (blk_cell BK233.out 0).trans rfl
              have hcz17_1 : wr.cell? ⟨gb233, 1, none⟩ = some (.int .i64 a0_1) := (blk_cell BK233.out 1).trans rfl
              have hcz17_2 : wr.cell? ⟨gb233, 2, none⟩ = some (.int .i64 a0_2) := (blk_cell BK233.out 2).trans rfl
              have hcz17_3 : wr.cell? ⟨gb233, 3, none⟩ = some (.int .i64 a0_3) := (blk_cell BK233.out 3).trans rfl
              have hcz17_4 : wr.cell? ⟨gb233, 4, none⟩ = some (.int .i64 a0_4) := (blk_cell BK233.out 4).trans rfl
              have hcz17_5 : wr.cell? ⟨gb233, 5, none⟩ = some (.string a0_5) := (blk_cell BK233.out 5).trans rfl
              have hcz17_6 : wr.cell? ⟨gb233, 6, none⟩ = some (.slice A0_6 l0_6.length c0_6) := (blk_cell BK233.out 6).trans rfl
              have hcz17_7 : wr.cell? ⟨gb233, 7, none⟩ = some (.slice A0_7 l0_7.length c0_7) := (blk_cell BK233.out 7).trans rfl
              have hcz17_8 : wr.cell? ⟨gb233, 8, none⟩ = some (.slice A0_8 l0_8.length c0_8) := (blk_cell BK233.out 8).trans rfl
              have hfz17_0 := blk_frozen BK233.out 0
              have hfz17_1 := blk_frozen BK233.out 1
              have hfz17_2 := blk_frozen BK233.out 2
              have hfz17_3 := blk_frozen BK233.out 3
              have hfz17_4 := blk_frozen BK233.out 4
              have hfz17_5 := blk_frozen BK233.out 5
              have hfz17_6 := blk_frozen BK233.out 6
              have hfz17_7 := blk_frozen BK233.out 7
              have hfz17_8 := blk_frozen BK233.out 8
              go_wp2
              go_meet
              case rel => exact ⟨_, (true), (by first | rfl | (simp; done) | (simp [*]; done)), H', ⟨by have := HK1.out; first | omega | exact Nat.le_refl _⟩, ⟨by (with_reducible repeat (first | refine blk_drewN ?_ _ | refine blk_drew ?_ | refine blk_alloc ?_ _)); exact BK233.out⟩, ⟨by repeat (first | (with_reducible first | exact HB.out | apply below_alloc | apply pw_below_drewN | apply below_drew1 | refine below_set ?_ GE233.out) | exact HB.out)⟩⟩
            · rw [if_neg c16] at H
              have c16b0 : decide ((l0_6.length : Int) < 1) = false := decide_eq_false c16
              have c16b1 : decide (l0_6.length < 1) = false := decide_eq_false (by omega)
              clear c16
              by_cases c18 : (l0_6.length : Int) > 20
              · rw [if_pos c18] at H
                have c18b0 : decide (20 < (l0_6.length : Int)) = true := decide_eq_true c18
                have c18b1 : decide (20 < l0_6.length) = true := decide_eq_true (by omega)
                clear c18
                have H' := Aside0.mk H
                clear H
                have hcz19_0 : wr.cell? ⟨gb233, 0, none⟩ = some (.int .i64 a0_0) := (blk_cell BK233.out 0).trans rfl
                have hcz19_1 : wr.cell? ⟨gb233, 1, none⟩ = some (.int .i64 a0_1) := (blk_cell BK233.out 1).trans rfl
                have hcz19_2 : wr.cell? ⟨gb233, 2, none⟩ = some (.int .i64 a0_2) := (blk_cell BK233.out 2).trans rfl
                have hcz19_3 : wr.cell? ⟨gb233, 3, none⟩ = some (.int .i64 a0_3) := (blk_cell BK233.out 3).trans rfl
                have hcz19_4 : wr.cell? ⟨gb233, 4, none⟩ = some (.int .i64 a0_4) := (blk_cell BK233.out 4).trans rfl
                have hcz19_5 : wr.cell? ⟨gb233, 5, none⟩ = some (.string a0_5) := (blk_cell BK233.out 5).trans rfl
                have hcz19_6 : wr.cell? ⟨gb233, 6, none⟩ = some (.slice A0_6 l0_6.length c0_6) := (blk_cell BK233.out 6).trans rfl
                have hcz19_7 : wr.cell? ⟨gb233, 7, none⟩ = some (.slice A0_7 l0_7.length c0_7) := (blk_cell BK233.out 7).trans rfl
                have hcz19_8 : wr.cell? ⟨gb233, 8, none⟩ = some (.slice A0_8 l0_8.length c0_8) := (blk_cell BK233.out 8).trans rfl
                have hfz19_0 := blk_frozen BK233.out 0
                have hfz19_1 := blk_frozen BK233.out 1
                have hfz19_2 := blk_frozen BK233.out 2
                have hfz19_3 := blk_frozen BK233.out 3
                have hfz19_4 := blk_frozen BK233.out 4
                have hfz19_5 := blk_frozen BK233.out 5
                have hfz19_6 := blk_frozen BK233.out 6
                have hfz19_7 := blk_frozen BK233.out 7
                have hfz19_8 := blk_frozen BK233.out 8
                go_wp2
                go_meet
                case rel => exact ⟨_, (true), (by first | rfl | (simp; done) | (simp [*]; done)), H', ⟨by have := HK1.out; first | omega | exact Nat.le_refl _⟩, ⟨by (with_reducible repeat (first | refine blk_drewN ?_ _ | refine blk_drew ?_ | refine blk_alloc ?_ _)); exact BK233.out⟩, ⟨by repeat (first | (with_reducible first | exact HB.out | apply below_alloc | apply pw_below_drewN | apply below_drew1 | refine below_set ?_ GE233.out) | exact HB.out)⟩⟩
              · rw [if_neg c18] at H
                have c18b0 : decide (20 < (l0_6.length : Int)) = false := decide_eq_false c18
                have c18b1 : decide (20 < l0_6.length) = false := decide_eq_false (by omega)
                clear c18
                by_cases c20 : (l0_7.length : Int) > 50
                · rw [if_pos c20] at H
                  have c20b0 : decide (50 < (l0_7.length : Int)) = true := decide_eq_true c20
                  have c20b1 : decide (50 < l0_7.length) = true := decide_eq_true (by omega)
                  clear c20
                  have H' := Aside0.mk H
                  clear H
                  have hcz21_0 : wr.cell? ⟨gb233, 0, none⟩ = some (.int .i64 a0_0) := (blk_cell BK233.out 0).trans rfl
                  have hcz21_1 : wr.cell? ⟨gb233, 1, none⟩ = some (.int .i64 a0_1) := (blk_cell BK233.out 1).trans rfl
                  have hcz21_2 : wr.cell? ⟨gb233, 2, none⟩ = some (.int .i64 a0_2) := (blk_cell BK233.out 2).trans rfl
                  have hcz21_3 : wr.cell? ⟨gb233, 3, none⟩ = some (.int .i64 a0_3) := (blk_cell BK233.out 3).trans rfl
                  have hcz21_4 : wr.cell? ⟨gb233, 4, none⟩ = some (.int .i64 a0_4) := (blk_cell BK233.out 4).trans rfl
                  have hcz21_5 : wr.cell? ⟨gb233, 5, none⟩ = some (.string a0_5) := (blk_cell BK233.out 5).trans rfl
                  have hcz21_6 : wr.cell? ⟨gb233, 6, none⟩ = some (.slice A0_6 l0_6.length c0_6) := (blk_cell BK233.out 6).trans rfl
                  have hcz21_7 : wr.cell? ⟨gb233, 7, none⟩ = some (.slice A0_7 l0_7.length c0_7) := (blk_cell BK233.out 7).trans rfl
                  have hcz21_8 : wr.cell? ⟨gb233, 8, none⟩ = some (.slice A0_8 l0_8.length c0_8) := (blk_cell BK233.out 8).trans rfl
                  have hfz21_0 := blk_frozen BK233.out 0
                  have hfz21_1 := blk_frozen BK233.out 1
                  have hfz21_2 := blk_frozen BK233.out 2
                  have hfz21_3 := blk_frozen BK233.out 3
                  have hfz21_4 := blk_frozen BK233.out 4
                  have hfz21_5 := blk_frozen BK233.out 5
                  have hfz21_6 := blk_frozen BK233.out 6
                  have hfz21_7 := blk_frozen BK233.out 7
                  have hfz21_8 := blk_frozen BK233.out 8
                  go_wp2
                  go_meet
                  case rel => exact ⟨_, (true), (by first | rfl | (simp; done) | (simp [*]; done)), H', ⟨by have := HK1.out; first | omega | exact Nat.le_refl _⟩, ⟨by (with_reducible repeat (first | refine blk_drewN ?_ _ | refine blk_drew ?_ | refine blk_alloc ?_ _)); exact BK233.out⟩, ⟨by repeat (first | (with_reducible first | exact HB.out | apply below_alloc | apply pw_below_drewN | apply below_drew1 | refine below_set ?_ GE233.out) | exact HB.out)⟩⟩
                · rw [if_neg c20] at H
                  have c20b0 : decide (50 < (l0_7.length : Int)) = false := decide_eq_false c20
                  have c20b1 : decide (50 < l0_7.length) = false := decide_eq_false (by omega)
                  clear c20
                  replace H := Option.bind_eq_some_iff.mp H
                  obtain ⟨t239, A220, H⟩ := H
                  replace H : (estafetteref08_Good.j1 k1 (!t239) a0_0 a0_1 a0_2 a0_3 a0_4 a0_5 l0_6 l0_7 l0_8) = some r := H
                  have A22 := Aside0.mk A220
                  clear A220
                  have H' := Aside0.mk H
                  clear H
                  have hcz23_0 : wr.cell? ⟨gb233, 0, none⟩ = some (.int .i64 a0_0) := (blk_cell BK233.out 0).trans rfl
                  have hcz23_1 : wr.cell? ⟨gb233, 1, none⟩ = some (.int .i64 a0_1) := (blk_cell BK233.out 1).trans rfl
                  have hcz23_2 : wr.cell? ⟨gb233, 2, none⟩ = some (.int .i64 a0_2) := (blk_cell BK233.out 2).trans rfl
                  have hcz23_3 : wr.cell? ⟨gb233, 3, none⟩ = some (.int .i64 a0_3) := (blk_cell BK233.out 3).trans rfl
                  have hcz23_4 : wr.cell? ⟨gb233, 4, none⟩ = some (.int .i64 a0_4) := (blk_cell BK233.out 4).trans rfl
                  have hcz23_5 : wr.cell? ⟨gb233, 5, none⟩ = some (.string a0_5) := (blk_cell BK233.out 5).trans rfl
                  have hcz23_6 : wr.cell? ⟨gb233, 6, none⟩ = some (.slice A0_6 l0_6.length c0_6) := (blk_cell BK233.out 6).trans rfl
                  have hcz23_7 : wr.cell? ⟨gb233, 7, none⟩ = some (.slice A0_7 l0_7.length c0_7) := (blk_cell BK233.out 7).trans rfl
                  have hcz23_8 : wr.cell? ⟨gb233, 8, none⟩ = some (.slice A0_8 l0_8.length c0_8) := (blk_cell BK233.out 8).trans rfl
                  have hfz23_0 := blk_frozen BK233.out 0
                  have hfz23_1 := blk_frozen BK233.out 1
                  have hfz23_2 := blk_frozen BK233.out 2
                  have hfz23_3 := blk_frozen BK233.out 3
                  have hfz23_4 := blk_frozen BK233.out 4
                  have hfz23_5 := blk_frozen BK233.out 5
                  have hfz23_6 := blk_frozen BK233.out 6
                  have hfz23_7 := blk_frozen BK233.out 7
                  have hfz23_8 := blk_frozen BK233.out 8
                  go_wp2_with (first | (go_at_call 18; (with_reducible refine (estafetteref01_Good.calls k1 _ _ l0_8 t239 _ ?side1 ?side2 A22.out).mono ?_); (case side1 => repeat (first | exact (Kd.C_below HR0_8.out HB.out) | (with_reducible refine Kd.C_alloc ?_ _) | (with_reducible refine Kd.C_drewN ?_ _) | (with_reducible refine Kd.C_drew ?_))); (case side2 => exact HC0_8.out); rintro e w' ⟨rfl, ⟨nd, rfl⟩⟩))
                  go_meet
                  case rel => exact ⟨_, (!t239), (by first | rfl | (simp; done) | (simp [*]; done)), H', ⟨by have := HK1.out; first | omega | exact Nat.le_refl _⟩, ⟨by (with_reducible repeat (first | refine blk_drewN ?_ _ | refine blk_drew ?_ | refine blk_alloc ?_ _)); exact BK233.out⟩, ⟨by repeat (first | (with_reducible first | exact HB.out | apply below_alloc | apply pw_below_drewN | apply below_drew1 | refine below_set ?_ GE233.out) | exact HB.out)⟩⟩
          · rw [if_neg c15] at H
            have c15b0 : (a0_5.toList == ([] : List UInt8)) = false := beq_eq_false_iff_ne.mpr c15
            have c15b1 : (a0_5.toList != ([] : List UInt8)) = true := bne_iff_ne.mpr c15
            (first | rw [c15b0] | (simp only [i64_w, i32_w]; rw [c15b0]) | skip)
            replace H := Option.bind_eq_some_iff.mp H
            obtain ⟨t240, A240, H⟩ := H
            replace H : (if t240 = true then (if (l0_6.length : Int) < 1 then (estafetteref08_Good.j1 k1 true a0_0 a0_1 a0_2 a0_3 a0_4 a0_5 l0_6 l0_7 l0_8) else (if (l0_6.length : Int) > 20 then (estafetteref08_Good.j1 k1 true a0_0 a0_1 a0_2 a0_3 a0_4 a0_5 l0_6 l0_7 l0_8) else (if (l0_7.length : Int) > 50 then (estafetteref08_Good.j1 k1 true a0_0 a0_1 a0_2 a0_3 a0_4 a0_5 l0_6 l0_7 l0_8) else ((estafetteref01_Good.f k1 l0_8).bind fun t241 => (estafetteref08_Good.j1 k1 (!t241) a0_0 a0_1 a0_2 a0_3 a0_4 a0_5 l0_6 l0_7 l0_8))))) else (estafetteref08_Good.j1 k1 true a0_0 a0_1 a0_2 a0_3 a0_4 a0_5 l0_6 l0_7 l0_8)) = some r := H
            have A24 := Aside0.mk A240
            clear A240
            by_cases c25 : t240 = true
            · subst c25
              have H1 : (if (l0_6.length : Int) < 1 then (estafetteref08_Good.j1 k1 true a0_0 a0_1 a0_2 a0_3 a0_4 a0_5 l0_6 l0_7 l0_8) else (if (l0_6.length : Int) > 20 then (estafetteref08_Good.j1 k1 true a0_0 a0_1 a0_2 a0_3 a0_4 a0_5 l0_6 l0_7 l0_8) else (if (l0_7.length : Int) > 50 then (estafetteref08_Good.j1 k1 true a0_0 a0_1 a0_2 a0_3 a0_4 a0_5 l0_6 l0_7 l0_8) else ((estafetteref01_Good.f k1 l0_8).bind fun t241 => (estafetteref08_Good.j1 k1 (!t241) a0_0 a0_1 a0_2 a0_3 a0_4 a0_5 l0_6 l0_7 l0_8))))) = some r := by rw [if_pos rfl] at H; exact H
              clear H
              have H := H1
              clear H1
              by_cases c26 : (l0_6.length : Int) < 1
              · rw [if_pos c26] at H
                have c26b0 : decide ((l0_6.length : Int) < 1) = true := decide_eq_true c26
                have c26b1 : decide (l0_6.length < 1) = true := decide_eq_true (by omega)
                clear c26
                have H' := Aside0.mk H
                clear H
                have hcz27_0 : wr.cell? ⟨gb233, 0, none⟩ = some (.int .i64 a0_0) := (blk_cell BK233.out 0).trans rfl
                have hcz27_1 : wr.cell? ⟨gb233, 1, none⟩ = some (.int .i64 a0_1) := (blk_cell BK233.out 1).trans rfl
                have hcz27_2 : wr.cell? ⟨gb233, 2, none⟩ = some (.int .i64 a0_2) := (blk_cell BK233.out 2).trans rfl
                have hcz27_3 : wr.cell? ⟨gb233, 3, none⟩ = some (.int .i64 a0_3) := (blk_cell BK233.out 3).trans rfl
                have hcz27_4 : wr.cell? ⟨gb233, 4, none⟩ = some (.int .i64 a0_4) := (blk_cell BK233.out 4).trans rfl
                have hcz27_5 : wr.cell? ⟨gb233, 5, none⟩ = some (.string a0_5) := (blk_cell BK233.out 5).trans rfl
                have hcz27_6 : wr.cell? ⟨gb233, 6, none⟩ = some (.slice A0_6 l0_6.length c0_6) := (blk_cell BK233.out 6).trans rfl
                have hcz27_7 : wr.cell? ⟨gb233, 7, none⟩ = some (.slice A0_7 l0_7.length c0_7) := (blk_cell BK233.out 7).trans rfl
                have hcz27_8 : wr.cell? ⟨gb233, 8, none⟩ = some (.slice A0_8 l0_8.length c0_8) := (blk_cell BK233.out 8).trans rfl
                have hfz27_0 := blk_frozen BK233.out 0
                have hfz27_1 := blk_frozen BK233.out 1
                have hfz27_2 := blk_frozen BK233.out 2
                have hfz27_3 := blk_frozen BK233.out 3
                have hfz27_4 := blk_frozen BK233.out 4
                have hfz27_5 := blk_frozen BK233.out 5
                have hfz27_6 := blk_frozen BK233.out 6
                have hfz27_7 := blk_frozen BK233.out 7
                have hfz27_8 := blk_frozen BK233.out 8
                go_wp2_with (first | (go_at_call 17; (with_reducible refine (estafetteref08_mailbox.calls k1 a0_5 true _ A24.out).mono ?_); rintro e w28 ⟨rfl, hb⟩; have n0_ := Aside0.mk (Kd.R_below (by (with_reducible repeat (first | apply Kd.R_alloc | apply Kd.R_drewN | apply Kd.R_drew)); exact HO_3.out) hb); have n1_ := Aside0.mk (blk_below (g := gb233) (o := .cells #[.int .i64 a0_0, .int .i64 a0_1, .int .i64 a0_2, .int .i64 a0_3, .int .i64 a0_4, .string a0_5, .slice A0_6 l0_6.length c0_6, .slice A0_7 l0_7.length c0_7, .slice A0_8 l0_8.length c0_8] 25 (0, 0)) (by (with_reducible repeat (first | refine blk_drewN ?_ _ | refine blk_drew ?_ | refine blk_alloc ?_ _)); exact BK233.out) hb); have n2_ := Aside0.mk (below_step (by repeat (first | (with_reducible first | exact HB.out | apply below_alloc | apply pw_below_drewN | apply below_drew1 | refine below_set ?_ GE233.out) | exact HB.out)) hb); clear HO_3; clear BK233; clear HB; have HO_3 := n0_; have BK233 := n1_; have HB := n2_; clear n0_ n1_ n2_; (try clear hb); (try clear hb2); (try clear hk); (try clear hi); have hcz29_0 : w28.cell? ⟨gb233, 0, none⟩ = some (.int .i64 a0_0) := (blk_cell BK233.out 0).trans rfl; have hcz29_1 : w28.cell? ⟨gb233, 1, none⟩ = some (.int .i64 a0_1) := (blk_cell BK233.out 1).trans rfl; have hcz29_2 : w28.cell? ⟨gb233, 2, none⟩ = some (.int .i64 a0_2) := (blk_cell BK233.out 2).trans rfl; have hcz29_3 : w28.cell? ⟨gb233, 3, none⟩ = some (.int .i64 a0_3) := (blk_cell BK233.out 3).trans rfl; have hcz29_4 : w28.cell? ⟨gb233, 4, none⟩ = some (.int .i64 a0_4) := (blk_cell BK233.out 4).trans rfl; have hcz29_5 : w28.cell? ⟨gb233, 5, none⟩ = some (.string a0_5) := (blk_cell BK233.out 5).trans rfl; have hcz29_6 : w28.cell? ⟨gb233, 6, none⟩ = some (.slice A0_6 l0_6.length c0_6) := (blk_cell BK233.out 6).trans rfl; have hcz29_7 : w28.cell? ⟨gb233, 7, none⟩ = some (.slice A0_7 l0_7.length c0_7) := (blk_cell BK233.out 7).trans rfl; have hcz29_8 : w28.cell? ⟨gb233, 8, none⟩ = some (.slice A0_8 l0_8.length c0_8) := (blk_cell BK233.out 8).trans rfl; have hfz29_0 := blk_frozen BK233.out 0; have hfz29_1 := blk_frozen BK233.out 1; have hfz29_2 := blk_frozen BK233.out 2; have hfz29_3 := blk_frozen BK233.out 3; have hfz29_4 := blk_frozen BK233.out 4; have hfz29_5 := blk_frozen BK233.out 5; have hfz29_6 := blk_frozen BK233.out 6; have hfz29_7 := blk_frozen BK233.out 7; have hfz29_8 := blk_frozen BK233.out 8))
                go_meet
                case rel => exact ⟨_, (true), (by first | rfl | (simp; done) | (simp [*]; done)), H', ⟨by have := HK1.out; first | omega | exact Nat.le_refl _⟩, ⟨by (with_reducible repeat (first | refine blk_drewN ?_ _ | refine blk_drew ?_ | refine blk_alloc ?_ _)); exact BK233.out⟩, ⟨by repeat (first | (with_reducible first | exact HB.out | apply below_alloc | apply pw_below_drewN | apply below_drew1 | refine below_set ?_ GE233.out) | exact HB.out)⟩⟩
              · rw [if_neg c26] at H
                have c26b0 : decide ((l0_6.length : Int) < 1) = false := decide_eq_false c26
                have c26b1 : decide (l0_6.length < 1) = false := decide_eq_false (by omega)
                clear c26
                by_cases c30 : (l0_6.length : Int) > 20
                · rw [if_pos c30] at H
                  have c30b0 : decide (20 < (l0_6.length : Int)) = true := decide_eq_true c30
                  have c30b1 : decide (20 < l0_6.length) = true := decide_eq_true (by omega)
                  clear c30
                  have H' := Aside0.mk H
                  clear H
                  have hcz31_0 : wr.cell? ⟨gb233, 0, none⟩ = some (.int .i64 a0_0) := (blk_cell BK233.out 0).trans rfl
                  have hcz31_1 : wr.cell? ⟨gb233, 1, none⟩ = some (.int .i64 a0_1) := (blk_cell BK233.out 1).trans rfl
                  have hcz31_2 : wr.cell? ⟨gb233, 2, none⟩ = some (.int .i64 a0_2) := (blk_cell BK233.out 2).trans rfl
                  have hcz31_3 : wr.cell? ⟨gb233, 3, none⟩ = some (.int .i64 a0_3) := (blk_cell BK233.out 3).trans rfl
                  have hcz31_4 : wr.cell? ⟨gb233, 4, none⟩ = some (.int .i64 a0_4) := (blk_cell BK233.out 4).trans rfl
                  have hcz31_5 : wr.cell? ⟨gb233, 5, none⟩ = some (.string a0_5) := (blk_cell BK233.out 5).trans rfl
                  have hcz31_6 : wr.cell? ⟨gb233, 6, none⟩ = some (.slice A0_6 l0_6.length c0_6) := (blk_cell BK233.out 6).trans rfl
                  have hcz31_7 : wr.cell? ⟨gb233, 7, none⟩ = some (.slice A0_7 l0_7.length c0_7) := (blk_cell BK233.out 7).trans rfl
                  have hcz31_8 : wr.cell? ⟨gb233, 8, none⟩ = some (.slice A0_8 l0_8.length c0_8) := (blk_cell BK233.out 8).trans rfl
                  have hfz31_0 := blk_frozen BK233.out 0
                  have hfz31_1 := blk_frozen BK233.out 1
                  have hfz31_2 := blk_frozen BK233.out 2
                  have hfz31_3 := blk_frozen BK233.out 3
                  have hfz31_4 := blk_frozen BK233.out 4
                  have hfz31_5 := blk_frozen BK233.out 5
                  have hfz31_6 := blk_frozen BK233.out 6
                  have hfz31_7 := blk_frozen BK233.out 7
                  have hfz31_8 := blk_frozen BK233.out 8
                  go_wp2_with (first | (go_at_call 17; (with_reducible refine (estafetteref08_mailbox.calls k1 a0_5 true _ A24.out).mono ?_); rintro e w32 ⟨rfl, hb⟩; have n0_ := Aside0.mk (Kd.R_below (by (with_reducible repeat (first | apply Kd.R_alloc | apply Kd.R_drewN | apply Kd.R_drew)); exact HO_3.out) hb); have n1_ := Aside0.mk (blk_below (g := gb233) (o := .cells #[.int .i64 a0_0, .int .i64 a0_1, .int .i64 a0_2, .int .i64 a0_3, .int .i64 a0_4, .string a0_5, .slice A0_6 l0_6.length c0_6, .slice A0_7 l0_7.length c0_7, .slice A0_8 l0_8.length c0_8] 25 (0, 0)) (by (with_reducible repeat (first | refine blk_drewN ?_ _ | refine blk_drew ?_ | refine blk_alloc ?_ _)); exact BK233.out) hb); have n2_ := Aside0.mk (below_step (by repeat (first | (with_reducible first | exact HB.out | apply below_alloc | apply pw_below_drewN | apply below_drew1 | refine below_set ?_ GE233.out) | exact HB.out)) hb); clear HO_3; clear BK233; clear HB; have HO_3 := n0_; have BK233 := n1_; have HB := n2_; clear n0_ n1_ n2_; (try clear hb); (try clear hb2); (try clear hk); (try clear hi); have hcz33_0 : w32.cell? ⟨gb233, 0, none⟩ = some (.int .i64 a0_0) := (blk_cell BK233.out 0).trans rfl; have hcz33_1 : w32.cell? ⟨gb233, 1, none⟩ = some (.int .i64 a0_1) := (blk_cell BK233.out 1).trans rfl; have hcz33_2 : w32.cell? ⟨gb233, 2, none⟩ = some (.int .i64 a0_2) := (blk_cell BK233.out 2).trans rfl; have hcz33_3 : w32.cell? ⟨gb233, 3, none⟩ = some (.int .i64 a0_3) := (blk_cell BK233.out 3).trans rfl; have hcz33_4 : w32.cell? ⟨gb233, 4, none⟩ = some (.int .i64 a0_4) := (blk_cell BK233.out 4).trans rfl; have hcz33_5 : w32.cell? ⟨gb233, 5, none⟩ = some (.string a0_5) := (blk_cell BK233.out 5).trans rfl; have hcz33_6 : w32.cell? ⟨gb233, 6, none⟩ = some (.slice A0_6 l0_6.length c0_6) := (blk_cell BK233.out 6).trans rfl; have hcz33_7 : w32.cell? ⟨gb233, 7, none⟩ = some (.slice A0_7 l0_7.length c0_7) := (blk_cell BK233.out 7).trans rfl; have hcz33_8 : w32.cell? ⟨gb233, 8, none⟩ = some (.slice A0_8 l0_8.length c0_8) := (blk_cell BK233.out 8).trans rfl; have hfz33_0 := blk_frozen BK233.out 0; have hfz33_1 := blk_frozen BK233.out 1; have hfz33_2 := blk_frozen BK233.out 2; have hfz33_3 := blk_frozen BK233.out 3; have hfz33_4 := blk_frozen BK233.out 4; have hfz33_5 := blk_frozen BK233.out 5; have hfz33_6 := blk_frozen BK233.out 6; have hfz33_7 := blk_frozen BK233.out 7; have hfz33_8 := blk_frozen BK233.out 8))
                  go_meet
                  case rel => exact ⟨_, (true), (by first | rfl | (simp; done) | (simp [*]; done)), H', ⟨by have := HK1.out; first | omega | exact Nat.le_refl _⟩, ⟨by (with_reducible repeat (first | refine blk_drewN ?_ _ | refine blk_drew ?_ | refine blk_alloc ?_ _)); exact BK233.out⟩, ⟨by repeat (first | (with_reducible first | exact HB.out | apply below_alloc | apply pw_below_drewN | apply below_drew1 | refine below_set ?_ GE233.out) | exact HB.out)⟩⟩
                · rw [if_neg c30] at H
                  have c30b0 : decide (20 < (l0_6.length : Int)) = false := decide_eq_false c30
                  have c30b1 : decide (20 < l0_6.length) = false := decide_eq_false (by omega)
                  clear c30
                  by_cases c34 : (l0_7.length : Int) > 50
                  · rw [if_pos c34] at H
                    have c34b0 : decide (50 < (l0_7.length : Int)) = true := decide_eq_true c34
                    have c34b1 : decide (50 < l0_7.length) = true := decide_eq_true (by omega)
                    clear c34
                    have H' := Aside0.mk H
                    clear H
                    have hcz35_0 : wr.cell? ⟨gb233, 0, none⟩ = some (.int .i64 a0_0) := (blk_cell BK233.out 0).trans rfl
                    have hcz35_1 : wr.cell? ⟨gb233, 1, none⟩ = some (.int .i64 a0_1) := (blk_cell BK233.out 1).trans rfl
                    have hcz35_2 : wr.cell? ⟨gb233, 2, none⟩ = some (.int .i64 a0_2) := (blk_cell BK233.out 2).trans rfl
                    have hcz35_3 : wr.cell? ⟨gb233, 3, none⟩ = some (.int .i64 a0_3) := (blk_cell BK233.out 3).trans rfl
                    have hcz35_4 : wr.cell? ⟨gb233, 4, none⟩ = some (.int .i64 a0_4) := (blk_cell BK233.out 4).trans rfl
                    have hcz35_5 : wr.cell? ⟨gb233, 5, none⟩ = some (.string a0_5) := (blk_cell BK233.out 5).trans rfl
                    have hcz35_6 : wr.cell? ⟨gb233, 6, none⟩ = some (.slice A0_6 l0_6.length c0_6) := (blk_cell BK233.out 6).trans rfl
                    have hcz35_7 : wr.cell? ⟨gb233, 7, none⟩ = some (.slice A0_7 l0_7.length c0_7) := (blk_cell BK233.out 7).trans rfl
                    have hcz35_8 : wr.cell? ⟨gb233, 8, none⟩ = some (.slice A0_8 l0_8.length c0_8) := (blk_cell BK233.out 8).trans rfl
                    have hfz35_0 := blk_frozen BK233.out 0
                    have hfz35_1 := blk_frozen BK233.out 1
                    have hfz35_2 := blk_frozen BK233.out 2
                    have hfz35_3 := blk_frozen BK233.out 3
                    have hfz35_4 := blk_frozen BK233.out 4
                    have hfz35_5 := blk_frozen BK233.out 5
                    have hfz35_6 := blk_frozen BK233.out 6
                    have hfz35_7 := blk_frozen BK233.out 7
                    have hfz35_8 := blk_frozen BK233.out 8
                    go_wp2_with (first | (go_at_call 17; (with_reducible refine (estafetteref08_mailbox.calls k1 a0_5 true _ A24.out).mono ?_); rintro e w36 ⟨rfl, hb⟩; have n0_ := Aside0.mk (Kd.R_below (by (with_reducible repeat (first | apply Kd.R_alloc | apply Kd.R_drewN | apply Kd.R_drew)); exact HO_3.out) hb); have n1_ := Aside0.mk (blk_below (g := gb233) (o := .cells #[.int .i64 a0_0, .int .i64 a0_1, .int .i64 a0_2, .int .i64 a0_3, .int .i64 a0_4, .string a0_5, .slice A0_6 l0_6.length c0_6, .slice A0_7 l0_7.length c0_7, .slice A0_8 l0_8.length c0_8] 25 (0, 0)) (by (with_reducible repeat (first | refine blk_drewN ?_ _ | refine blk_drew ?_ | refine blk_alloc ?_ _)); exact BK233.out) hb); have n2_ := Aside0.mk (below_step (by repeat (first | (with_reducible first | exact HB.out | apply below_alloc | apply pw_below_drewN | apply below_drew1 | refine below_set ?_ GE233.out) | exact HB.out)) hb); clear HO_3; clear BK233; clear HB; have HO_3 := n0_; have BK233 := n1_; have HB := n2_; clear n0_ n1_ n2_; (try clear hb); (try clear hb2); (try clear hk); (try clear hi); have hcz37_0 : w36.cell? ⟨gb233, 0, none⟩ = some (.int .i64 a0_0) := (blk_cell BK233.out 0).trans rfl; have hcz37_1 : w36.cell? ⟨gb233, 1, none⟩ = some (.int .i64 a0_1) := (blk_cell BK233.out 1).trans rfl; have hcz37_2 : w36.cell? ⟨gb233, 2, none⟩ = some (.int .i64 a0_2) := (blk_cell BK233.out 2).trans rfl; have hcz37_3 : w36.cell? ⟨gb233, 3, none⟩ = some (.int .i64 a0_3) := (blk_cell BK233.out 3).trans rfl; have hcz37_4 : w36.cell? ⟨gb233, 4, none⟩ = some (.int .i64 a0_4) := (blk_cell BK233.out 4).trans rfl; have hcz37_5 : w36.cell? ⟨gb233, 5, none⟩ = some (.string a0_5) := (blk_cell BK233.out 5).trans rfl; have hcz37_6 : w36.cell? ⟨gb233, 6, none⟩ = some (.slice A0_6 l0_6.length c0_6) := (blk_cell BK233.out 6).trans rfl; have hcz37_7 : w36.cell? ⟨gb233, 7, none⟩ = some (.slice A0_7 l0_7.length c0_7) := (blk_cell BK233.out 7).trans rfl; have hcz37_8 : w36.cell? ⟨gb233, 8, none⟩ = some (.slice A0_8 l0_8.length c0_8) := (blk_cell BK233.out 8).trans rfl; have hfz37_0 := blk_frozen BK233.out 0; have hfz37_1 := blk_frozen BK233.out 1; have hfz37_2 := blk_frozen BK233.out 2; have hfz37_3 := blk_frozen BK233.out 3; have hfz37_4 := blk_frozen BK233.out 4; have hfz37_5 := blk_frozen BK233.out 5; have hfz37_6 := blk_frozen BK233.out 6; have hfz37_7 := blk_frozen BK233.out 7; have hfz37_8 := blk_frozen BK233.out 8))
                    go_meet
                    case rel => exact ⟨_, (true), (by first | rfl | (simp; done) | (simp [*]; done)), H', ⟨by have := HK1.out; first | omega | exact Nat.le_refl _⟩, ⟨by (with_reducible repeat (first | refine blk_drewN ?_ _ | refine blk_drew ?_ | refine blk_alloc ?_ _)); exact BK233.out⟩, ⟨by repeat (first | (with_reducible first | exact HB.out | apply below_alloc | apply pw_below_drewN | apply below_drew1 | refine below_set ?_ GE233.out) | exact HB.out)⟩⟩
                  · rw [if_neg c34] at H
                    have c34b0 : decide (50 < (l0_7.length : Int)) = false := decide_eq_false c34
                    have c34b1 : decide (50 < l0_7.length) = false := decide_eq_false (by omega)
                    clear c34
                    replace H := Option.bind_eq_some_iff.mp H
                    obtain ⟨t241, A380, H⟩ := H
                    replace H : (estafetteref08_Good.j1 k1 (!t241) a0_0 a0_1 a0_2 a0_3 a0_4 a0_5 l0_6 l0_7 l0_8) = some r := H
                    have A38 := Aside0.mk A380
                    clear A380
                    have H' := Aside0.mk H
                    clear H
                    have hcz39_0 : wr.cell? ⟨gb233, 0, none⟩ = some (.int .i64 a0_0) := (blk_cell BK233.out 0).trans rfl
                    have hcz39_1 : wr.cell? ⟨gb233, 1, none⟩ = some (.int .i64 a0_1) := (blk_cell BK233.out 1).trans rfl
                    have hcz39_2 : wr.cell? ⟨gb233, 2, none⟩ = some (.int .i64 a0_2) := (blk_cell BK233.out 2).trans rfl
                    have hcz39_3 : wr.cell? ⟨gb233, 3, none⟩ = some (.int .i64 a0_3) := (blk_cell BK233.out 3).trans rfl
                    have hcz39_4 : wr.cell? ⟨gb233, 4, none⟩ = some (.int .i64 a0_4) := (blk_cell BK233.out 4).trans rfl
                    have hcz39_5 : wr.cell? ⟨gb233, 5, none⟩ = some (.string a0_5) := (blk_cell BK233.out 5).trans rfl
                    have hcz39_6 : wr.cell? ⟨gb233, 6, none⟩ = some (.slice A0_6 l0_6.length c0_6) := (blk_cell BK233.out 6).trans rfl
                    have hcz39_7 : wr.cell? ⟨gb233, 7, none⟩ = some (.slice A0_7 l0_7.length c0_7) := (blk_cell BK233.out 7).trans rfl
                    have hcz39_8 : wr.cell? ⟨gb233, 8, none⟩ = some (.slice A0_8 l0_8.length c0_8) := (blk_cell BK233.out 8).trans rfl
                    have hfz39_0 := blk_frozen BK233.out 0
                    have hfz39_1 := blk_frozen BK233.out 1
                    have hfz39_2 := blk_frozen BK233.out 2
                    have hfz39_3 := blk_frozen BK233.out 3
                    have hfz39_4 := blk_frozen BK233.out 4
                    have hfz39_5 := blk_frozen BK233.out 5
                    have hfz39_6 := blk_frozen BK233.out 6
                    have hfz39_7 := blk_frozen BK233.out 7
                    have hfz39_8 := blk_frozen BK233.out 8
                    go_wp2_with (first | (go_at_call 17; (with_reducible refine (estafetteref08_mailbox.calls k1 a0_5 true _ A24.out).mono ?_); rintro e w40 ⟨rfl, hb⟩; have n0_ := Aside0.mk (Kd.R_below (by (with_reducible repeat (first | apply Kd.R_alloc | apply Kd.R_drewN | apply Kd.R_drew)); exact HO_3.out) hb); have n1_ := Aside0.mk (blk_below (g := gb233) (o := .cells #[.int .i64 a0_0, .int .i64 a0_1, .int .i64 a0_2, .int .i64 a0_3, .int .i64 a0_4, .string a0_5, .slice A0_6 l0_6.length c0_6, .slice A0_7 l0_7.length c0_7, .slice A0_8 l0_8.length c0_8] 25 (0, 0)) (by (with_reducible repeat (first | refine blk_drewN ?_ _ | refine blk_drew ?_ | refine blk_alloc ?_ _)); exact BK233.out) hb); have n2_ := Aside0.mk (below_step (by repeat (first | (with_reducible first | exact HB.out | apply below_alloc | apply pw_below_drewN | apply below_drew1 | refine below_set ?_ GE233.out) | exact HB.out)) hb); clear HO_3; clear BK233; clear HB; have HO_3 := n0_; have BK233 := n1_; have HB := n2_; clear n0_ n1_ n2_; (try clear hb); (try clear hb2); (try clear hk); (try clear hi); have hcz41_0 : w40.cell? ⟨gb233, 0, none⟩ = some (.int .i64 a0_0) := (blk_cell BK233.out 0).trans rfl; have hcz41_1 : w40.cell? ⟨gb233, 1, none⟩ = some (.int .i64 a0_1) := (blk_cell BK233.out 1).trans rfl; have hcz41_2 : w40.cell? ⟨gb233, 2, none⟩ = some (.int .i64 a0_2) := (blk_cell BK233.out 2).trans rfl; have hcz41_3 : w40.cell? ⟨gb233, 3, none⟩ = some (.int .i64 a0_3) := (blk_cell BK233.out 3).trans rfl; have hcz41_4 : w40.cell? ⟨gb233, 4, none⟩ = some (.int .i64 a0_4) := (blk_cell BK233.out 4).trans rfl; have hcz41_5 : w40.cell? ⟨gb233, 5, none⟩ = some (.string a0_5) := (blk_cell BK233.out 5).trans rfl; have hcz41_6 : w40.cell? ⟨gb233, 6, none⟩ = some (.slice A0_6 l0_6.length c0_6) := (blk_cell BK233.out 6).trans rfl; have hcz41_7 : w40.cell? ⟨gb233, 7, none⟩ = some (.slice A0_7 l0_7.length c0_7) := (blk_cell BK233.out 7).trans rfl; have hcz41_8 : w40.cell? ⟨gb233, 8, none⟩ = some (.slice A0_8 l0_8.length c0_8) := (blk_cell BK233.out 8).trans rfl; have hfz41_0 := blk_frozen BK233.out 0; have hfz41_1 := blk_frozen BK233.out 1; have hfz41_2 := blk_frozen BK233.out 2; have hfz41_3 := blk_frozen BK233.out 3; have hfz41_4 := blk_frozen BK233.out 4; have hfz41_5 := blk_frozen BK233.out 5; have hfz41_6 := blk_frozen BK233.out 6; have hfz41_7 := blk_frozen BK233.out 7; have hfz41_8 := blk_frozen BK233.out 8) | (go_at_call 18; (with_reducible refine (estafetteref01_Good.calls k1 _ _ l0_8 t241 _ ?side1 ?side2 A38.out).mono ?_); (case side1 => repeat (first | exact (Kd.C_below HR0_8.out HB.out) | (with_reducible refine Kd.C_alloc ?_ _) | (with_reducible refine Kd.C_drewN ?_ _) | (with_reducible refine Kd.C_drew ?_))); (case side2 => exact HC0_8.out); rintro e w' ⟨rfl, ⟨nd, rfl⟩⟩))
                    go_meet
                    case rel => exact ⟨_, (!t241), (by first | rfl | (simp; done) | (simp [*]; done)), H', ⟨by have := HK1.out; first | omega | exact Nat.le_refl _⟩, ⟨by (with_reducible repeat (first | refine blk_drewN ?_ _ | refine blk_drew ?_ | refine blk_alloc ?_ _)); exact BK233.out⟩, ⟨by repeat (first | (with_reducible first | exact HB.out | apply below_alloc | apply pw_below_drewN | apply below_drew1 | refine below_set ?_ GE233.out) | exact HB.out)⟩⟩
            · replace c25 := Bool.eq_false_iff.mpr c25
              subst c25
              have H1 : (estafetteref08_Good.j1 k1 true a0_0 a0_1 a0_2 a0_3 a0_4 a0_5 l0_6 l0_7 l0_8) = some r := by rw [if_neg (show ¬ (false = true) by decide)] at H; exact H
              clear H
              have H := H1
              clear H1
              have H' := Aside0.mk H
              clear H
              have hcz42_0 : wr.cell? ⟨gb233, 0, none⟩ = some (.int .i64 a0_0) := (blk_cell BK233.out 0).trans rfl
              have hcz42_1 : wr.cell? ⟨gb233, 1, none⟩ = some (.int .i64 a0_1) := (blk_cell BK233.out 1).trans rfl
              have hcz42_2 : wr.cell? ⟨gb233, 2, none⟩ = some (.int .i64 a0_2) := (blk_cell BK233.out 2).trans rfl
              have hcz42_3 : wr.cell? ⟨gb233, 3, none⟩ = some (.int .i64 a0_3) := (blk_cell BK233.out 3).trans rfl
              have hcz42_4 : wr.cell? ⟨gb233, 4, none⟩ = some (.int .i64 a0_4) := (blk_cell BK233.out 4).trans rfl
              have hcz42_5 : wr.cell? ⟨gb233, 5, none⟩ = some (.string a0_5) := (blk_cell BK233.out 5).trans rfl
              have hcz42_6 : wr.cell? ⟨gb233, 6, none⟩ = some (.slice A0_6 l0_6.length c0_6) := (blk_cell BK233.out 6).trans rfl
              have hcz42_7 : wr.cell? ⟨gb233, 7, none⟩ = some (.slice A0_7 l0_7.length c0_7) := (blk_cell BK233.out 7).trans rfl
              have hcz42_8 : wr.cell? ⟨gb233, 8, none⟩ = some (.slice A0_8 l0_8.length c0_8) := (blk_cell BK233.out 8).trans rfl
              have hfz42_0 := blk_frozen BK233.out 0
              have hfz42_1 := blk_frozen BK233.out 1
              have hfz42_2 := blk_frozen BK233.out 2
              have hfz42_3 := blk_frozen BK233.out 3
              have hfz42_4 := blk_frozen BK233.out 4
              have hfz42_5 := blk_frozen BK233.out 5
              have hfz42_6 := blk_frozen BK233.out 6
              have hfz42_7 := blk_frozen BK233.out 7
              have hfz42_8 := blk_frozen BK233.out 8
              go_wp2_with (first | (go_at_call 17; (with_reducible refine (estafetteref08_mailbox.calls k1 a0_5 false _ A24.out).mono ?_); rintro e w43 ⟨rfl, hb⟩; have n0_ := Aside0.mk (Kd.R_below (by (with_reducible repeat (first | apply Kd.R_alloc | apply Kd.R_drewN | apply Kd.R_drew)); exact HO_3.out) hb); have n1_ := Aside0.mk (blk_below (g := gb233) (o := .cells #[.int .i64 a0_0, .int .i64 a0_1, .int .i64 a0_2, .int .i64 a0_3, .int .i64 a0_4, .string a0_5, .slice A0_6 l0_6.length c0_6, .slice A0_7 l0_7.length c0_7, .slice A0_8 l0_8.length c0_8] 25 (0, 0)) (by (with_reducible repeat (first | refine blk_drewN ?_ _ | refine blk_drew ?_ | refine blk_alloc ?_ _)); exact BK233.out) hb); have n2_ := Aside0.mk (below_step (by repeat (first | (with_reducible first | exact HB.out | apply below_alloc | apply pw_below_drewN | apply below_drew1 | refine below_set ?_ GE233.out) | exact HB.out)) hb); clear HO_3; clear BK233; clear HB; have HO_3 := n0_; have BK233 := n1_; have HB := n2_; clear n0_ n1_ n2_; (try clear hb); (try clear hb2); (try clear hk); (try clear hi)))
              go_meet
              case rel => exact ⟨_, (true), (by first | rfl | (simp; done) | (simp [*]; done)), H', ⟨by have := HK1.out; first | omega | exact Nat.le_refl _⟩, ⟨by (with_reducible repeat (first | refine blk_drewN ?_ _ | refine blk_drew ?_ | refine blk_alloc ?_ _)); exact BK233.out⟩, ⟨by repeat (first | (with_reducible first | exact HB.out | apply below_alloc | apply pw_below_drewN | apply below_drew1 | refine below_set ?_ GE233.out) | exact HB.out)⟩⟩
        case rest =>
          clear HC14
          try clear c1
          try clear c2
          try clear p2
          try clear q2
          try clear hx2
          try clear c3
          try clear c6
          try clear c6b0
          try clear p6
          try clear c7
          try clear c7b0
          try clear c8
          try clear c8b0
          try clear c9
          try clear c9b0
          try clear c10
          try clear c11
          try clear c11b0
          try clear c15
          try clear c15b0
          try clear c15b1
          try clear c16
          try clear c16b0
          try clear c16b1
          try clear c18
          try clear c18b0
          try clear c18b1
          try clear c20
          try clear c20b0
          try clear c20b1
          try clear p23
          try clear q23
          try clear hx23
          try clear c25
          try clear c26
          try clear c26b0
          try clear c26b1
          try clear c30
          try clear c30b0
          try clear c30b1
          try clear c34
          try clear c34b0
          try clear c34b1
          try clear hcz17_0
          try clear hcz17_1
          try clear hcz17_2
          try clear hcz17_3
          try clear hcz17_4
          try clear hcz17_5
          try clear hcz17_6
          try clear hcz17_7
          try clear hcz17_8
          try clear hcz19_0
          try clear hcz19_1
          try clear hcz19_2
          try clear hcz19_3
          try clear hcz19_4
          try clear hcz19_5
          try clear hcz19_6
          try clear hcz19_7
          try clear hcz19_8
          try clear hcz21_0
          try clear hcz21_1
          try clear hcz21_2
          try clear hcz21_3
          try clear hcz21_4
          try clear hcz21_5
          try clear hcz21_6
          try clear hcz21_7
          try clear hcz21_8
          try clear hcz23_0
          try clear hcz23_1
          try clear hcz23_2
          try clear hcz23_3
          try clear hcz23_4
          try clear hcz23_5
          try clear hcz23_6
          try clear hcz23_7
          try clear hcz23_8
          try clear hcz27_0
          try clear hcz27_1
          try clear hcz27_2
          try clear hcz27_3
          try clear hcz27_4
          try clear hcz27_5
          try clear hcz27_6
          try clear hcz27_7
          try clear hcz27_8
          try clear hcz29_0
          try clear hcz29_1
          try clear hcz29_2
          try clear hcz29_3
          try clear hcz29_4
          try clear hcz29_5
          try clear hcz29_6
          try clear hcz29_7
          try clear hcz29_8
          try clear hcz31_0
          try clear hcz31_1
          try clear hcz31_2
          try clear hcz31_3
          try clear hcz31_4
          try clear hcz31_5
          try clear hcz31_6
          try clear hcz31_7
          try clear hcz31_8
          try clear hcz33_0
          try clear hcz33_1
          try clear hcz33_2
          try clear hcz33_3
          try clear hcz33_4
          try clear hcz33_5
          try clear hcz33_6
          try clear hcz33_7
          try clear hcz33_8
          try clear hcz35_0
          try clear hcz35_1
          try clear hcz35_2
          try clear hcz35_3
          try clear hcz35_4
          try clear hcz35_5
          try clear hcz35_6
          try clear hcz35_7
          try clear hcz35_8
          try clear hcz37_0
          try clear hcz37_1
          try clear hcz37_2
          try clear hcz37_3
          try clear hcz37_4
          try clear hcz37_5
          try clear hcz37_6
          try clear hcz37_7
          try clear hcz37_8
          try clear hcz39_0
          try clear hcz39_1
          try clear hcz39_2
          try clear hcz39_3
          try clear hcz39_4
          try clear hcz39_5
          try clear hcz39_6
          try clear hcz39_7
          try clear hcz39_8
          try clear hcz3_0
          try clear hcz3_1
          try clear hcz3_2
          try clear hcz3_3
          try clear hcz3_4
          try clear hcz3_5
          try clear hcz3_6
          try clear hcz3_7
          try clear hcz3_8
          try clear hcz41_0
          try clear hcz41_1
          try clear hcz41_2
          try clear hcz41_3
          try clear hcz41_4
          try clear hcz41_5
          try clear hcz41_6
          try clear hcz41_7
          try clear hcz41_8
          try clear hcz42_0
          try clear hcz42_1
          try clear hcz42_2
          try clear hcz42_3
          try clear hcz42_4
          try clear hcz42_5
          try clear hcz42_6
          try clear hcz42_7
          try clear hcz42_8
          try clear hfz17_0
          try clear hfz17_1
          try clear hfz17_2
          try clear hfz17_3
          try clear hfz17_4
          try clear hfz17_5
          try clear hfz17_6
          try clear hfz17_7
          try clear hfz17_8
          try clear hfz19_0
          try clear hfz19_1
          try clear hfz19_2
          try clear hfz19_3
          try clear hfz19_4
          try clear hfz19_5
          try clear hfz19_6
          try clear hfz19_7
          try clear hfz19_8
          try clear hfz21_0
          try clear hfz21_1
          try clear hfz21_2
          try clear hfz21_3
          try clear hfz21_4
          try clear hfz21_5
          try clear hfz21_6
          try clear hfz21_7
          try clear hfz21_8
          try clear hfz23_0
          try clear hfz23_1
          try clear hfz23_2
          try clear hfz23_3
          try clear hfz23_4
          try clear hfz23_5
          try clear hfz23_6
          try clear hfz23_7
          try clear hfz23_8
          try clear hfz27_0
          try clear hfz27_1
          try clear hfz27_2
          try clear hfz27_3
          try clear hfz27_4
          try clear hfz27_5
          try clear hfz27_6
          try clear hfz27_7
          try clear hfz27_8
          try clear hfz29_0
          try clear hfz29_1
          try clear hfz29_2
          try clear hfz29_3
          try clear hfz29_4
          try clear hfz29_5
          try clear hfz29_6
          try clear hfz29_7
          try clear hfz29_8
          try clear hfz31_0
          try clear hfz31_1
          try clear hfz31_2
          try clear hfz31_3
          try clear hfz31_4
          try clear hfz31_5
          try clear hfz31_6
          try clear hfz31_7
          try clear hfz31_8
          try clear hfz33_0
          try clear hfz33_1
          try clear hfz33_2
          try clear hfz33_3
          try clear hfz33_4
          try clear hfz33_5
          try clear hfz33_6
          try clear hfz33_7
          try clear hfz33_8
          try clear hfz35_0
          try clear hfz35_1
          try clear hfz35_2
          try clear hfz35_3
          try clear hfz35_4
          try clear hfz35_5
          try clear hfz35_6
          try clear hfz35_7
          try clear hfz35_8
          try clear hfz37_0
          try clear hfz37_1
          try clear hfz37_2
          try clear hfz37_3
          try clear hfz37_4
          try clear hfz37_5
          try clear hfz37_6
          try clear hfz37_7
          try clear hfz37_8
          try clear hfz39_0
          try clear hfz39_1
          try clear hfz39_2
          try clear hfz39_3
          try clear hfz39_4
          try clear hfz39_5
          try clear hfz39_6
          try clear hfz39_7
          try clear hfz39_8
          try clear hfz3_0
          try clear hfz3_1
          try clear hfz3_2
          try clear hfz3_3
          try clear hfz3_4
          try clear hfz3_5
          try clear hfz3_6
          try clear hfz3_7
          try clear hfz3_8
          try clear hfz41_0
          try clear hfz41_1
          try clear hfz41_2
          try clear hfz41_3
          try clear hfz41_4
          try clear hfz41_5
          try clear hfz41_6
          try clear hfz41_7
          try clear hfz41_8
          try clear hfz42_0
          try clear hfz42_1
          try clear hfz42_2
          try clear hfz42_3
          try clear hfz42_4
          try clear hfz42_5
          try clear hfz42_6
          try clear hfz42_7
          try clear hfz42_8
          try clear hx237_0
          try clear hx238_0
          try clear p2
          try clear p237
          try clear p238
          try clear q237
          try clear q238
          obtain ⟨kq, x66_13, rfl, HA, HJ13, BK233, HB⟩ := hcut
          cases kq with
          | zero => exact absurd HA.out (by simp [estafetteref08_Good.j1])
          | succ kj13 =>
            have H := HA.out
            clear HA
            simp only [estafetteref08_Good.j1] at H
            by_cases c44 : x66_13 = true
            · subst c44
              have H1 : (some false) = some r := by rw [if_pos rfl] at H; exact H
              clear H
              have H := H1
              clear H1
              obtain rfl := Option.some.inj H
              go_wp2
              go_ret
              exact ⟨by first | rfl | (simp [errW_none, errW_some] <;> rfl) | (simp [*, errW_none, errW_some] <;> rfl), by repeat (first | (with_reducible first | exact HB.out | apply below_alloc | apply pw_below_drewN | apply below_drew1 | refine below_set ?_ GE233.out) | exact HB.out)⟩
            · replace c44 := Bool.eq_false_iff.mpr c44
              subst c44
              have H1 : (estafetteref08_Good.l1 kj13 0 a0_0 a0_1 a0_2 a0_3 a0_4 a0_5 l0_6 l0_7 l0_8) = some r := by rw [if_neg (show ¬ (false = true) by decide)] at H; exact H
              clear H
              have H := H1
              clear H1
              have H' := Aside0.mk H
              clear H
              go_wp2
              go_loopg [5] kj13 (fun kq v5 w' => ∃ (x5_3 : Int), v5 = .int .i64 x5_3 ∧ Aside0 (estafetteref08_Good.l1 kq x5_3 a0_0 a0_1 a0_2 a0_3 a0_4 a0_5 l0_6 l0_7 l0_8 = some r) ∧ Aside0 (kq ≤ kj13) ∧ Aside0 (w'.heap[gb233]? = some (.cells #[.int .i64 a0_0, .int .i64 a0_1, .int .i64 a0_2, .int .i64 a0_3, .int .i64 a0_4, .string a0_5, (.slice A0_6 l0_6.length c0_6), (.slice A0_7 l0_7.length c0_7), (.slice A0_8 l0_8.length c0_8)] 25 (0, 0))) ∧ Aside0 (Below w.heap.size w w'))
              case atStart => exact ⟨(0), (by first | rfl | (simp; done) | (simp [*]; done)), H', ⟨Nat.le_refl _⟩, ⟨by (with_reducible repeat (first | refine blk_drewN ?_ _ | refine blk_drew ?_ | refine blk_alloc ?_ _)); exact BK233.out⟩, ⟨by repeat (first | (with_reducible first | exact HB.out | apply below_alloc | apply pw_below_drewN | apply below_drew1 | refine below_set ?_ GE233.out) | exact HB.out)⟩⟩
              case round =>
                clear H'
                try clear c1
                try clear c2
                try clear p2
                try clear q2
                try clear hx2
                try clear c3
                try clear c4
                try clear c6
                try clear c6b0
                try clear p6
                try clear c7
                try clear c7b0
                try clear c8
                try clear c8b0
                try clear c9
                try clear c9b0
                try clear c10
                try clear c11
                try clear c11b0
                try clear c15
                try clear c15b0
                try clear c15b1
                try clear c16
                try clear c16b0
                try clear c16b1
                try clear c18
                try clear c18b0
                try clear c18b1
                try clear c20
                try clear c20b0
                try clear c20b1
                try clear p23
                try clear q23
                try clear hx23
                try clear c25
                try clear c26
                try clear c26b0
                try clear c26b1
                try clear c30
                try clear c30b0
                try clear c30b1
                try clear c34
                try clear c34b0
                try clear c34b1
                try clear c44
                try clear hcz17_0
                try clear hcz17_1
                try clear hcz17_2
                try clear hcz17_3
                try clear hcz17_4
                try clear hcz17_5
                try clear hcz17_6
                try clear hcz17_7
                try clear hcz17_8
                try clear hcz19_0
                try clear hcz19_1
                try clear hcz19_2
                try clear hcz19_3
                try clear hcz19_4
                try clear hcz19_5
                try clear hcz19_6
                try clear hcz19_7
                try clear hcz19_8
                try clear hcz21_0
                try clear hcz21_1
                try clear hcz21_2
                try clear hcz21_3
                try clear hcz21_4
                try clear hcz21_5
                try clear hcz21_6
                try clear hcz21_7
                try clear hcz21_8
                try clear hcz23_0
                try clear hcz23_1
                try clear hcz23_2
                try clear hcz23_3
                try clear hcz23_4
                try clear hcz23_5
                try clear hcz23_6
                try clear hcz23_7
                try clear hcz23_8
                try clear hcz27_0
                try clear hcz27_1
                try clear hcz27_2
                try clear hcz27_3
                try clear hcz27_4
                try clear hcz27_5
                try clear hcz27_6
                try clear hcz27_7
                try clear hcz27_8
                try clear hcz29_0
                try clear hcz29_1
                try clear hcz29_2
                try clear hcz29_3
                try clear hcz29_4
                try clear hcz29_5
                try clear hcz29_6
                try clear hcz29_7
                try clear hcz29_8
                try clear hcz31_0
                try clear hcz31_1
                try clear hcz31_2
                try clear hcz31_3
                try clear hcz31_4
                try clear hcz31_5
                try clear hcz31_6
                try clear hcz31_7
                try clear hcz31_8
                try clear hcz33_0
                try clear hcz33_1
                try clear hcz33_2
                try clear hcz33_3
                try clear hcz33_4
                try clear hcz33_5
                try clear hcz33_6
                try clear hcz33_7
                try clear hcz33_8
                try clear hcz35_0
                try clear hcz35_1
                try clear hcz35_2
                try clear hcz35_3
                try clear hcz35_4
                try clear hcz35_5
                try clear hcz35_6
                try clear hcz35_7
                try clear hcz35_8
                try clear hcz37_0
                try clear hcz37_1
                try clear hcz37_2
                try clear hcz37_3
                try clear hcz37_4
                try clear hcz37_5
                try clear hcz37_6
                try clear hcz37_7
                try clear hcz37_8
                try clear hcz39_0
                try clear hcz39_1
                try clear hcz39_2
                try clear hcz39_3
                try clear hcz39_4
                try clear hcz39_5
                try clear hcz39_6
                try clear hcz39_7
                try clear hcz39_8
                try clear hcz3_0
                try clear hcz3_1
                try clear hcz3_2
                try clear hcz3_3
                try clear hcz3_4
                try clear hcz3_5
                try clear hcz3_6
                try clear hcz3_7
                try clear hcz3_8
                try clear hcz41_0
                try clear hcz41_1
                try clear hcz41_2
                try clear hcz41_3
                try clear hcz41_4
                try clear hcz41_5
                try clear hcz41_6
                try clear hcz41_7
                try clear hcz41_8
                try clear hcz42_0
                try clear hcz42_1
                try clear hcz42_2
                try clear hcz42_3
                try clear hcz42_4
                try clear hcz42_5
                try clear hcz42_6
                try clear hcz42_7
                try clear hcz42_8
                try clear hfz17_0
                try clear hfz17_1
                try clear hfz17_2
                try clear hfz17_3
                try clear hfz17_4
                try clear hfz17_5
                try clear hfz17_6
                try clear hfz17_7
                try clear hfz17_8
                try clear hfz19_0
                try clear hfz19_1
                try clear hfz19_2
                try clear hfz19_3
                try clear hfz19_4
                try clear hfz19_5
                try clear hfz19_6
                try clear hfz19_7
                try clear hfz19_8
                try clear hfz21_0
                try clear hfz21_1
                try clear hfz21_2
                try clear hfz21_3
                try clear hfz21_4
                try clear hfz21_5
                try clear hfz21_6
                try clear hfz21_7
                try clear hfz21_8
                try clear hfz23_0
                try clear hfz23_1
                try clear hfz23_2
                try clear hfz23_3
                try clear hfz23_4
                try clear hfz23_5
                try clear hfz23_6
                try clear hfz23_7
                try clear hfz23_8
                try clear hfz27_0
                try clear hfz27_1
                try clear hfz27_2
                try clear hfz27_3
                try clear hfz27_4
                try clear hfz27_5
                try clear hfz27_6
                try clear hfz27_7
                try clear hfz27_8
                try clear hfz29_0
                try clear hfz29_1
                try clear hfz29_2
                try clear hfz29_3
                try clear hfz29_4
                try clear hfz29_5
                try clear hfz29_6
                try clear hfz29_7
                try clear hfz29_8
                try clear hfz31_0
                try clear hfz31_1
                try clear hfz31_2
                try clear hfz31_3
                try clear hfz31_4
                try clear hfz31_5
                try clear hfz31_6
                try clear hfz31_7
                try clear hfz31_8
                try clear hfz33_0
                try clear hfz33_1
                try clear hfz33_2
                try clear hfz33_3
                try clear hfz33_4
                try clear hfz33_5
                try clear hfz33_6
                try clear hfz33_7
                try clear hfz33_8
                try clear hfz35_0
                try clear hfz35_1
                try clear hfz35_2
                try clear hfz35_3
                try clear hfz35_4
                try clear hfz35_5
                try clear hfz35_6
                try clear hfz35_7
                try clear hfz35_8
                try clear hfz37_0
                try clear hfz37_1
                try clear hfz37_2
                try clear hfz37_3
                try clear hfz37_4
                try clear hfz37_5
                try clear hfz37_6
                try clear hfz37_7
                try clear hfz37_8
                try clear hfz39_0
                try clear hfz39_1
                try clear hfz39_2
                try clear hfz39_3
                try clear hfz39_4
                try clear hfz39_5
                try clear hfz39_6
                try clear hfz39_7
                try clear hfz39_8
                try clear hfz3_0
                try clear hfz3_1
                try clear hfz3_2
                try clear hfz3_3
                try clear hfz3_4
                try clear hfz3_5
                try clear hfz3_6
                try clear hfz3_7
                try clear hfz3_8
                try clear hfz41_0
                try clear hfz41_1
                try clear hfz41_2
                try clear hfz41_3
                try clear hfz41_4
                try clear hfz41_5
                try clear hfz41_6
                try clear hfz41_7
                try clear hfz41_8
                try clear hfz42_0
                try clear hfz42_1
                try clear hfz42_2
                try clear hfz42_3
                try clear hfz42_4
                try clear hfz42_5
                try clear hfz42_6
                try clear hfz42_7
                try clear hfz42_8
                try clear hx237_0
                try clear hx238_0
                try clear p2
                try clear p23
                try clear p237
                try clear p238
                try clear p6
                try clear q2
                try clear q23
                try clear q237
                try clear q238
                obtain ⟨x5_3, rfl, HA, HK3, BK233, HB⟩ := hrel
                cases gk with
                | zero => exact absurd HA.out (by simp [estafetteref08_Good.l1])
                | succ k3 =>
                  have H := HA.out
                  clear HA
                  simp only [estafetteref08_Good.l1] at H
                  by_cases c45 : x5_3 < (l0_6.length : Int)
                  · rw [if_pos c45] at H
                    have c45b0 : decide (x5_3 < (l0_6.length : Int)) = true := decide_eq_true c45
                    clear c45
                    by_cases c46 : 0 ≤ x5_3
                    · rw [if_pos c46] at H
                      have c46b0 : decide (0 ≤ x5_3) = true := decide_eq_true c46
                      clear c46
                      replace H := Option.bind_eq_some_iff.mp H
                      obtain ⟨t243, A470, H⟩ := H
                      replace H : (if t243 = true then (estafetteref08_Good.l1 k3 (wrap64 (x5_3 + 1)) a0_0 a0_1 a0_2 a0_3 a0_4 a0_5 l0_6 l0_7 l0_8) else (some false)) = some r := H
                      have A47 := Aside0.mk A470
                      clear A470
                      by_cases c48 : t243 = true
                      · subst c48
                        have H1 : (estafetteref08_Good.l1 k3 (wrap64 (x5_3 + 1)) a0_0 a0_1 a0_2 a0_3 a0_4 a0_5 l0_6 l0_7 l0_8) = some r := by rw [if_pos rfl] at H; exact H
                        clear H
                        have H := H1
                        clear H1
                        have H' := Aside0.mk H
                        clear H
                        have hcz49_0 : wr.cell? ⟨gb233, 0, none⟩ = some (.int .i64 a0_0) := (blk_cell BK233.out 0).trans rfl
                        have hcz49_1 : wr.cell? ⟨gb233, 1, none⟩ = some (.int .i64 a0_1) := (blk_cell BK233.out 1).trans rfl
                        have hcz49_2 : wr.cell? ⟨gb233, 2, none⟩ = some (.int .i64 a0_2) := (blk_cell BK233.out 2).trans rfl
                        have hcz49_3 : wr.cell? ⟨gb233, 3, none⟩ = some (.int .i64 a0_3) := (blk_cell BK233.out 3).trans rfl
                        have hcz49_4 : wr.cell? ⟨gb233, 4, none⟩ = some (.int .i64 a0_4) := (blk_cell BK233.out 4).trans rfl
                        have hcz49_5 : wr.cell? ⟨gb233, 5, none⟩ = some (.string a0_5) := (blk_cell BK233.out 5).trans rfl
                        have hcz49_6 : wr.cell? ⟨gb233, 6, none⟩ = some (.slice A0_6 l0_6.length c0_6) := (blk_cell BK233.out 6).trans rfl
                        have hcz49_7 : wr.cell? ⟨gb233, 7, none⟩ = some (.slice A0_7 l0_7.length c0_7) := (blk_cell BK233.out 7).trans rfl
                        have hcz49_8 : wr.cell? ⟨gb233, 8, none⟩ = some (.slice A0_8 l0_8.length c0_8) := (blk_cell BK233.out 8).trans rfl
                        have hfz49_0 := blk_frozen BK233.out 0
                        have hfz49_1 := blk_frozen BK233.out 1
                        have hfz49_2 := blk_frozen BK233.out 2
                        have hfz49_3 := blk_frozen BK233.out 3
                        have hfz49_4 := blk_frozen BK233.out 4
                        have hfz49_5 := blk_frozen BK233.out 5
                        have hfz49_6 := blk_frozen BK233.out 6
                        have hfz49_7 := blk_frozen BK233.out 7
                        have hfz49_8 := blk_frozen BK233.out 8
                        have p242 : 0 ≤ (x5_3 : Int) := of_decide_eq_true (by first | (with_reducible assumption) | assumption)
                        have q242 : x5_3 < (l0_6.length : Int) := of_decide_eq_true (by first | (with_reducible assumption) | assumption)
                        obtain ⟨ad242, e242, hx242_0⟩ := Kd.at_string HR0_6.out x5_3 p242 q242
                        cases e242
                        replace hx242_0 := (HB.out.cell (World.block_lt_of_cell? w _ hx242_0)).trans hx242_0
                        replace p242 := eq_true p242
                        replace q242 := eq_true q242
                        go_wp2_with (first | ((with_reducible refine gate_callee (f := 17) rfl ?_); refine goesL_ (some 79) rfl rfl Tryd.func17 (by kernel_rfl) rfl #[.string (rdOf ByteArray.empty l0_6 x5_3)] rfl (by (try simp only [List.map_toArray, List.map_cons, List.map_nil]); first | done | rfl | (simp only [List.length_drop, List.length_take]; rfl)) ?_; (with_reducible refine (estafetteref08_mailbox.calls k3 (rdOf ByteArray.empty l0_6 x5_3) true _ A47.out).mono ?_); rintro e w50 ⟨rfl, hb⟩; refine ⟨_, rfl, ?_⟩; have n0_ := Aside0.mk (blk_below (g := gb233) (o := .cells #[.int .i64 a0_0, .int .i64 a0_1, .int .i64 a0_2, .int .i64 a0_3, .int .i64 a0_4, .string a0_5, .slice (some ad242) l0_6.length c0_6, .slice A0_7 l0_7.length c0_7, .slice A0_8 l0_8.length c0_8] 25 (0, 0)) (by (with_reducible repeat (first | refine blk_drewN ?_ _ | refine blk_drew ?_ | refine blk_alloc ?_ _)); exact BK233.out) hb); have n1_ := Aside0.mk (below_step (by repeat (first | (with_reducible first | exact HB.out | apply below_alloc | apply pw_below_drewN | apply below_drew1 | refine below_set ?_ GE233.out) | exact HB.out)) hb); clear BK233; clear HB; have BK233 := n0_; have HB := n1_; clear n0_ n1_; (try clear hb); (try clear hb2); (try clear hk); (try clear hi)))
                        go_roundg k3
                        case measure => have := HK1.out; have := HJ13.out; have := HK3.out; omega
                        case rel => exact ⟨(wrap64 (x5_3 + 1)), (by first | rfl | (simp; done) | (simp [*]; done)), H', ⟨by have := HK1.out; have := HJ13.out; have := HK3.out; omega⟩, ⟨by (with_reducible repeat (first | refine blk_drewN ?_ _ | refine blk_drew ?_ | refine blk_alloc ?_ _)); exact BK233.out⟩, ⟨by repeat (first | (with_reducible first | exact HB.out | apply below_alloc | apply pw_below_drewN | apply below_drew1 | refine below_set ?_ GE233.out) | exact HB.out)⟩⟩
                      · replace c48 := Bool.eq_false_iff.mpr c48
                        subst c48
                        have H1 : (some false) = some r := by rw [if_neg (show ¬ (false = true) by decide)] at H; exact H
                        clear H
                        have H := H1
                        clear H1
                        obtain rfl := Option.some.inj H
                        have hcz51_0 : wr.cell? ⟨gb233, 0, none⟩ = some (.int .i64 a0_0) := (blk_cell BK233.out 0).trans rfl
                        have hcz51_1 : wr.cell? ⟨gb233, 1, none⟩ = some (.int .i64 a0_1) := (blk_cell BK233.out 1).trans rfl
                        have hcz51_2 : wr.cell? ⟨gb233, 2, none⟩ = some (.int .i64 a0_2) := (blk_cell BK233.out 2).trans rfl
                        have hcz51_3 : wr.cell? ⟨gb233, 3, none⟩ = some (.int .i64 a0_3) := (blk_cell BK233.out 3).trans rfl
                        have hcz51_4 : wr.cell? ⟨gb233, 4, none⟩ = some (.int .i64 a0_4) := (blk_cell BK233.out 4).trans rfl
                        have hcz51_5 : wr.cell? ⟨gb233, 5, none⟩ = some (.string a0_5) := (blk_cell BK233.out 5).trans rfl
                        have hcz51_6 : wr.cell? ⟨gb233, 6, none⟩ = some (.slice A0_6 l0_6.length c0_6) := (blk_cell BK233.out 6).trans rfl
                        have hcz51_7 : wr.cell? ⟨gb233, 7, none⟩ = some (.slice A0_7 l0_7.length c0_7) := (blk_cell BK233.out 7).trans rfl
                        have hcz51_8 : wr.cell? ⟨gb233, 8, none⟩ = some (.slice A0_8 l0_8.length c0_8) := (blk_cell BK233.out 8).trans rfl
                        have hfz51_0 := blk_frozen BK233.out 0
                        have hfz51_1 := blk_frozen BK233.out 1
                        have hfz51_2 := blk_frozen BK233.out 2
                        have hfz51_3 := blk_frozen BK233.out 3
                        have hfz51_4 := blk_frozen BK233.out 4
                        have hfz51_5 := blk_frozen BK233.out 5
                        have hfz51_6 := blk_frozen BK233.out 6
                        have hfz51_7 := blk_frozen BK233.out 7
                        have hfz51_8 := blk_frozen BK233.out 8
                        have p242 : 0 ≤ (x5_3 : Int) := of_decide_eq_true (by first | (with_reducible assumption) | assumption)
                        have q242 : x5_3 < (l0_6.length : Int) := of_decide_eq_true (by first | (with_reducible assumption) | assumption)
                        obtain ⟨ad242, e242, hx242_0⟩ := Kd.at_string HR0_6.out x5_3 p242 q242
                        cases e242
                        replace hx242_0 := (HB.out.cell (World.block_lt_of_cell? w _ hx242_0)).trans hx242_0
                        replace p242 := eq_true p242
                        replace q242 := eq_true q242
                        go_wp2_with (first | ((with_reducible refine gate_callee (f := 17) rfl ?_); refine goesL_ (some 79) rfl rfl Tryd.func17 (by kernel_rfl) rfl #[.string (rdOf ByteArray.empty l0_6 x5_3)] rfl (by (try simp only [List.map_toArray, List.map_cons, List.map_nil]); first | done | rfl | (simp only [List.length_drop, List.length_take]; rfl)) ?_; (with_reducible refine (estafetteref08_mailbox.calls k3 (rdOf ByteArray.empty l0_6 x5_3) false _ A47.out).mono ?_); rintro e w52 ⟨rfl, hb⟩; refine ⟨_, rfl, ?_⟩; have n0_ := Aside0.mk (blk_below (g := gb233) (o := .cells #[.int .i64 a0_0, .int .i64 a0_1, .int .i64 a0_2, .int .i64 a0_3, .int .i64 a0_4, .string a0_5, .slice (some ad242) l0_6.length c0_6, .slice A0_7 l0_7.length c0_7, .slice A0_8 l0_8.length c0_8] 25 (0, 0)) (by (with_reducible repeat (first | refine blk_drewN ?_ _ | refine blk_drew ?_ | refine blk_alloc ?_ _)); exact BK233.out) hb); have n1_ := Aside0.mk (below_step (by repeat (first | (with_reducible first | exact HB.out | apply below_alloc | apply pw_below_drewN | apply below_drew1 | refine below_set ?_ GE233.out) | exact HB.out)) hb); clear BK233; clear HB; have BK233 := n0_; have HB := n1_; clear n0_ n1_; (try clear hb); (try clear hb2); (try clear hk); (try clear hi)))
                        go_ret
                        exact ⟨by first | rfl | (simp [errW_none, errW_some] <;> rfl) | (simp [*, errW_none, errW_some] <;> rfl), by repeat (first | (with_reducible first | exact HB.out | apply below_alloc | apply pw_below_drewN | apply below_drew1 | refine below_set ?_ GE233.out) | exact HB.out)⟩
                    · rw [if_neg c46] at H
                      exact absurd H (by simp)
                  · rw [if_neg c45] at H
                    have c45b0 : decide (x5_3 < (l0_6.length : Int)) = false := decide_eq_false c45
                    clear c45
                    have H' := Aside0.mk H
                    clear H
                    have hcz53_0 : wr.cell? ⟨gb233, 0, none⟩ = some (.int .i64 a0_0) := (blk_cell BK233.out 0).trans rfl
                    have hcz53_1 : wr.cell? ⟨gb233, 1, none⟩ = some (.int .i64 a0_1) := (blk_cell BK233.out 1).trans rfl
                    have hcz53_2 : wr.cell? ⟨gb233, 2, none⟩ = some (.int .i64 a0_2) := (blk_cell BK233.out 2).trans rfl
                    have hcz53_3 : wr.cell? ⟨gb233, 3, none⟩ = some (.int .i64 a0_3) := (blk_cell BK233.out 3).trans rfl
                    have hcz53_4 : wr.cell? ⟨gb233, 4, none⟩ = some (.int .i64 a0_4) := (blk_cell BK233.out 4).trans rfl
                    have hcz53_5 : wr.cell? ⟨gb233, 5, none⟩ = some (.string a0_5) := (blk_cell BK233.out 5).trans rfl
                    have hcz53_6 : wr.cell? ⟨gb233, 6, none⟩ = some (.slice A0_6 l0_6.length c0_6) := (blk_cell BK233.out 6).trans rfl
                    have hcz53_7 : wr.cell? ⟨gb233, 7, none⟩ = some (.slice A0_7 l0_7.length c0_7) := (blk_cell BK233.out 7).trans rfl
                    have hcz53_8 : wr.cell? ⟨gb233, 8, none⟩ = some (.slice A0_8 l0_8.length c0_8) := (blk_cell BK233.out 8).trans rfl
                    have hfz53_0 := blk_frozen BK233.out 0
                    have hfz53_1 := blk_frozen BK233.out 1
                    have hfz53_2 := blk_frozen BK233.out 2
                    have hfz53_3 := blk_frozen BK233.out 3
                    have hfz53_4 := blk_frozen BK233.out 4
                    have hfz53_5 := blk_frozen BK233.out 5
                    have hfz53_6 := blk_frozen BK233.out 6
                    have hfz53_7 := blk_frozen BK233.out 7
                    have hfz53_8 := blk_frozen BK233.out 8
                    go_wp2
                    go_loopg [6] k3 (fun kq v6 w' => ∃ (x6_4 : Int), v6 = .int .i64 x6_4 ∧ Aside0 (estafetteref08_Good.l2 kq x6_4 a0_0 a0_1 a0_2 a0_3 a0_4 a0_5 l0_6 l0_7 l0_8 = some r) ∧ Aside0 (kq ≤ k3) ∧ Aside0 (w'.heap[gb233]? = some (.cells #[.int .i64 a0_0, .int .i64 a0_1, .int .i64 a0_2, .int .i64 a0_3, .int .i64 a0_4, .string a0_5, (.slice A0_6 l0_6.length c0_6), (.slice A0_7 l0_7.length c0_7), (.slice A0_8 l0_8.length c0_8)] 25 (0, 0))) ∧ Aside0 (Below w.heap.size w w'))
                    case atStart => exact ⟨(0), (by first | rfl | (simp; done) | (simp [*]; done)), H', ⟨Nat.le_refl _⟩, ⟨by (with_reducible repeat (first | refine blk_drewN ?_ _ | refine blk_drew ?_ | refine blk_alloc ?_ _)); exact BK233.out⟩, ⟨by repeat (first | (with_reducible first | exact HB.out | apply below_alloc | apply pw_below_drewN | apply below_drew1 | refine below_set ?_ GE233.out) | exact HB.out)⟩⟩
                    case round =>
                      clear H'
                      try clear c1
                      try clear c2
                      try clear p2
                      try clear q2
                      try clear hx2
                      try clear c3
                      try clear c4
                      try clear c6
                      try clear c6b0
                      try clear p6
                      try clear c7
                      try clear c7b0
                      try clear c8
                      try clear c8b0
                      try clear c9
                      try clear c9b0
                      try clear c10
                      try clear c11
                      try clear c11b0
                      try clear c15
                      try clear c15b0
                      try clear c15b1
                      try clear c16
                      try clear c16b0
                      try clear c16b1
                      try clear c17
                      try clear c18
                      try clear c18b0
                      try clear c18b1
                      try clear c20
                      try clear c20b0
                      try clear c20b1
                      try clear p23
                      try clear q23
                      try clear hx23
                      try clear p24
                      try clear q24
                      try clear hx24
                      try clear c25
                      try clear c26
                      try clear c26b0
                      try clear c26b1
                      try clear c30
                      try clear c30b0
                      try clear c30b1
                      try clear c34
                      try clear c34b0
                      try clear c34b1
                      try clear c44
                      try clear c45
                      try clear c45b0
                      try clear c46
                      try clear c46b0
                      try clear c48
                      try clear hcz17_0
                      try clear hcz17_1
                      try clear hcz17_2
                      try clear hcz17_3
                      try clear hcz17_4
                      try clear hcz17_5
                      try clear hcz17_6
                      try clear hcz17_7
                      try clear hcz17_8
                      try clear hcz19_0
                      try clear hcz19_1
                      try clear hcz19_2
                      try clear hcz19_3
                      try clear hcz19_4
                      try clear hcz19_5
                      try clear hcz19_6
                      try clear hcz19_7
                      try clear hcz19_8
                      try clear hcz21_0
                      try clear hcz21_1
                      try clear hcz21_2
                      try clear hcz21_3
                      try clear hcz21_4
                      try clear hcz21_5
                      try clear hcz21_6
                      try clear hcz21_7
                      try clear hcz21_8
                      try clear hcz23_0
                      try clear hcz23_1
                      try clear hcz23_2
                      try clear hcz23_3
                      try clear hcz23_4
                      try clear hcz23_5
                      try clear hcz23_6
                      try clear hcz23_7
                      try clear hcz23_8
                      try clear hcz27_0
                      try clear hcz27_1
                      try clear hcz27_2
                      try clear hcz27_3
                      try clear hcz27_4
                      try clear hcz27_5
                      try clear hcz27_6
                      try clear hcz27_7
                      try clear hcz27_8
                      try clear hcz29_0
                      try clear hcz29_1
                      try clear hcz29_2
                      try clear hcz29_3
                      try clear hcz29_4
                      try clear hcz29_5
                      try clear hcz29_6
                      try clear hcz29_7
                      try clear hcz29_8
                      try clear hcz31_0
                      try clear hcz31_1
                      try clear hcz31_2
                      try clear hcz31_3
                      try clear hcz31_4
                      try clear hcz31_5
                      try clear hcz31_6
                      try clear hcz31_7
                      try clear hcz31_8
                      try clear hcz33_0
                      try clear hcz33_1
                      try clear hcz33_2
                      try clear hcz33_3
                      try clear hcz33_4
                      try clear hcz33_5
                      try clear hcz33_6
                      try clear hcz33_7
                      try clear hcz33_8
                      try clear hcz35_0
                      try clear hcz35_1
                      try clear hcz35_2
                      try clear hcz35_3
                      try clear hcz35_4
                      try clear hcz35_5
                      try clear hcz35_6
                      try clear hcz35_7
                      try clear hcz35_8
                      try clear hcz37_0
                      try clear hcz37_1
                      try clear hcz37_2
                      try clear hcz37_3
                      try clear hcz37_4
                      try clear hcz37_5
                      try clear hcz37_6
                      try clear hcz37_7
                      try clear hcz37_8
                      try clear hcz39_0
                      try clear hcz39_1
                      try clear hcz39_2
                      try clear hcz39_3
                      try clear hcz39_4
                      try clear hcz39_5
                      try clear hcz39_6
                      try clear hcz39_7
                      try clear hcz39_8
                      try clear hcz3_0
                      try clear hcz3_1
                      try clear hcz3_2
                      try clear hcz3_3
                      try clear hcz3_4
                      try clear hcz3_5
                      try clear hcz3_6
                      try clear hcz3_7
                      try clear hcz3_8
                      try clear hcz41_0
                      try clear hcz41_1
                      try clear hcz41_2
                      try clear hcz41_3
                      try clear hcz41_4
                      try clear hcz41_5
                      try clear hcz41_6
                      try clear hcz41_7
                      try clear hcz41_8
                      try clear hcz42_0
                      try clear hcz42_1
                      try clear hcz42_2
                      try clear hcz42_3
                      try clear hcz42_4
                      try clear hcz42_5
                      try clear hcz42_6
                      try clear hcz42_7
                      try clear hcz42_8
                      try clear hcz49_0
                      try clear hcz49_1
                      try clear hcz49_2
                      try clear hcz49_3
                      try clear hcz49_4
                      try clear hcz49_5
                      try clear hcz49_6
                      try clear hcz49_7
                      try clear hcz49_8
                      try clear hcz51_0
                      try clear hcz51_1
                      try clear hcz51_2
                      try clear hcz51_3
                      try clear hcz51_4
                      try clear hcz51_5
                      try clear hcz51_6
                      try clear hcz51_7
                      try clear hcz51_8
                      try clear hcz53_0
                      try clear hcz53_1
                      try clear hcz53_2
                      try clear hcz53_3
                      try clear hcz53_4
                      try clear hcz53_5
                      try clear hcz53_6
                      try clear hcz53_7
                      try clear hcz53_8
                      try clear hfz17_0
                      try clear hfz17_1
                      try clear hfz17_2
                      try clear hfz17_3
                      try clear hfz17_4
                      try clear hfz17_5
                      try clear hfz17_6
                      try clear hfz17_7
                      try clear hfz17_8
                      try clear hfz19_0
                      try clear hfz19_1
                      try clear hfz19_2
                      try clear hfz19_3
                      try clear hfz19_4
                      try clear hfz19_5
                      try clear hfz19_6
                      try clear hfz19_7
                      try clear hfz19_8
                      try clear hfz21_0
                      try clear hfz21_1
                      try clear hfz21_2
                      try clear hfz21_3
                      try clear hfz21_4
                      try clear hfz21_5
                      try clear hfz21_6
                      try clear hfz21_7
                      try clear hfz21_8
                      try clear hfz23_0
                      try clear hfz23_1
                      try clear hfz23_2
                      try clear hfz23_3
                      try clear hfz23_4
                      try clear hfz23_5
                      try clear hfz23_6
                      try clear hfz23_7
                      try clear hfz23_8
                      try clear hfz27_0
                      try clear hfz27_1
                      try clear hfz27_2
                      try clear hfz27_3
                      try clear hfz27_4
                      try clear hfz27_5
                      try clear hfz27_6
                      try clear hfz27_7
                      try clear hfz27_8
                      try clear hfz29_0
                      try clear hfz29_1
                      try clear hfz29_2
                      try clear hfz29_3
                      try clear hfz29_4
                      try clear hfz29_5
                      try clear hfz29_6
                      try clear hfz29_7
                      try clear hfz29_8
                      try clear hfz31_0
                      try clear hfz31_1
                      try clear hfz31_2
                      try clear hfz31_3
                      try clear hfz31_4
                      try clear hfz31_5
                      try clear hfz31_6
                      try clear hfz31_7
                      try clear hfz31_8
                      try clear hfz33_0
                      try clear hfz33_1
                      try clear hfz33_2
                      try clear hfz33_3
                      try clear hfz33_4
                      try clear hfz33_5
                      try clear hfz33_6
                      try clear hfz33_7
                      try clear hfz33_8
                      try clear hfz35_0
                      try clear hfz35_1
                      try clear hfz35_2
                      try clear hfz35_3
                      try clear hfz35_4
                      try clear hfz35_5
                      try clear hfz35_6
                      try clear hfz35_7
                      try clear hfz35_8
                      try clear hfz37_0
                      try clear hfz37_1
                      try clear hfz37_2
                      try clear hfz37_3
                      try clear hfz37_4
                      try clear hfz37_5
                      try clear hfz37_6
                      try clear hfz37_7
                      try clear hfz37_8
                      try clear hfz39_0
                      try clear hfz39_1
                      try clear hfz39_2
                      try clear hfz39_3
                      try clear hfz39_4
                      try clear hfz39_5
                      try clear hfz39_6
                      try clear hfz39_7
                      try clear hfz39_8
                      try clear hfz3_0
                      try clear hfz3_1
                      try clear hfz3_2
                      try clear hfz3_3
                      try clear hfz3_4
                      try clear hfz3_5
                      try clear hfz3_6
                      try clear hfz3_7
                      try clear hfz3_8
                      try clear hfz41_0
                      try clear hfz41_1
                      try clear hfz41_2
                      try clear hfz41_3
                      try clear hfz41_4
                      try clear hfz41_5
                      try clear hfz41_6
                      try clear hfz41_7
                      try clear hfz41_8
                      try clear hfz42_0
                      try clear hfz42_1
                      try clear hfz42_2
                      try clear hfz42_3
                      try clear hfz42_4
                      try clear hfz42_5
                      try clear hfz42_6
                      try clear hfz42_7
                      try clear hfz42_8
                      try clear hfz49_0
                      try clear hfz49_1
                      try clear hfz49_2
                      try clear hfz49_3
                      try clear hfz49_4
                      try clear hfz49_5
                      try clear hfz49_6
                      try clear hfz49_7
                      try clear hfz49_8
                      try clear hfz51_0
                      try clear hfz51_1
                      try clear hfz51_2
                      try clear hfz51_3
                      try clear hfz51_4
                      try clear hfz51_5
                      try clear hfz51_6
                      try clear hfz51_7
                      try clear hfz51_8
                      try clear hfz53_0
                      try clear hfz53_1
                      try clear hfz53_2
                      try clear hfz53_3
                      try clear hfz53_4
                      try clear hfz53_5
                      try clear hfz53_6
                      try clear hfz53_7
                      try clear hfz53_8
                      try clear hx237_0
                      try clear hx238_0
                      try clear hx242_0
                      try clear p2
                      try clear p23
                      try clear p237
                      try clear p238
                      try clear p242
                      try clear p6
                      try clear q2
                      try clear q23
                      try clear q237
                      try clear q238
                      try clear q242
                      obtain ⟨x6_4, rfl, HA, HK4, BK233, HB⟩ := hrel
                      cases gk with
                      | zero => exact absurd HA.out (by simp [estafetteref08_Good.l2])
                      | succ k4 =>
                        have H := HA.out
                        clear HA
                        simp only [estafetteref08_Good.l2] at H
                        by_cases c54 : x6_4 < (l0_7.length : Int)
                        · rw [if_pos c54] at H
                          have c54b0 : decide (x6_4 < (l0_7.length : Int)) = true := decide_eq_true c54
                          clear c54
                          by_cases c55 : 0 ≤ x6_4
                          · rw [if_pos c55] at H
                            have c55b0 : decide (0 ≤ x6_4) = true := decide_eq_true c55
                            clear c55
                            by_cases c56 : (rd l0_7 x6_4) < 0
                            · rw [if_pos c56] at H
                              have c56b0 : decide ((rd l0_7 x6_4) < 0) = true := decide_eq_true c56
                              clear c56
                              obtain rfl := Option.some.inj H
                              have hcz57_0 : wr.cell? ⟨gb233, 0, none⟩ = some (.int .i64 a0_0) := (blk_cell BK233.out 0).trans rfl
                              have hcz57_1 : wr.cell? ⟨gb233, 1, none⟩ = some (.int .i64 a0_1) := (blk_cell BK233.out 1).trans rfl
                              have hcz57_2 : wr.cell? ⟨gb233, 2, none⟩ = some (.int .i64 a0_2) := (blk_cell BK233.out 2).trans rfl
                              have hcz57_3 : wr.cell? ⟨gb233, 3, none⟩ = some (.int .i64 a0_3) := (blk_cell BK233.out 3).trans rfl
                              have hcz57_4 : wr.cell? ⟨gb233, 4, none⟩ = some (.int .i64 a0_4) := (blk_cell BK233.out 4).trans rfl
                              have hcz57_5 : wr.cell? ⟨gb233, 5, none⟩ = some (.string a0_5) := (blk_cell BK233.out 5).trans rfl
                              have hcz57_6 : wr.cell? ⟨gb233, 6, none⟩ = some (.slice A0_6 l0_6.length c0_6) := (blk_cell BK233.out 6).trans rfl
                              have hcz57_7 : wr.cell? ⟨gb233, 7, none⟩ = some (.slice A0_7 l0_7.length c0_7) := (blk_cell BK233.out 7).trans rfl
                              have hcz57_8 : wr.cell? ⟨gb233, 8, none⟩ = some (.slice A0_8 l0_8.length c0_8) := (blk_cell BK233.out 8).trans rfl
                              have hfz57_0 := blk_frozen BK233.out 0
                              have hfz57_1 := blk_frozen BK233.out 1
                              have hfz57_2 := blk_frozen BK233.out 2
                              have hfz57_3 := blk_frozen BK233.out 3
                              have hfz57_4 := blk_frozen BK233.out 4
                              have hfz57_5 := blk_frozen BK233.out 5
                              have hfz57_6 := blk_frozen BK233.out 6
                              have hfz57_7 := blk_frozen BK233.out 7
                              have hfz57_8 := blk_frozen BK233.out 8
                              have p244 : 0 ≤ (x6_4 : Int) := of_decide_eq_true (by first | (with_reducible assumption) | assumption)
                              have q244 : x6_4 < (l0_7.length : Int) := of_decide_eq_true (by first | (with_reducible assumption) | assumption)
                              obtain ⟨ad244, e244, hx244_0⟩ := Kd.at_int HR0_7.out x6_4 p244 q244
                              cases e244
                              replace hx244_0 := (HB.out.cell (World.block_lt_of_cell? w _ hx244_0)).trans hx244_0
                              replace p244 := eq_true p244
                              replace q244 := eq_true q244
                              go_wp2
                              go_ret
                              exact ⟨by first | rfl | (simp [errW_none, errW_some] <;> rfl) | (simp [*, errW_none, errW_some] <;> rfl), by repeat (first | (with_reducible first | exact HB.out | apply below_alloc | apply pw_below_drewN | apply below_drew1 | refine below_set ?_ GE233.out) | exact HB.out)⟩
                            · rw [if_neg c56] at H
                              have c56b0 : decide ((rd l0_7 x6_4) < 0) = false := decide_eq_false c56
                              clear c56
                              by_cases c58 : (rd l0_7 x6_4) > 2
                              · rw [if_pos c58] at H
                                have c58b0 : decide (2 < (rd l0_7 x6_4)) = true := decide_eq_true c58
                                clear c58
                                obtain rfl := Option.some.inj H
                                have hcz59_0 : wr.cell? ⟨gb233, 0, none⟩ = some (.int .i64 a0_0) := (blk_cell BK233.out 0).trans rfl
                                have hcz59_1 : wr.cell? ⟨gb233, 1, none⟩ = some (.int .i64 a0_1) := (blk_cell BK233.out 1).trans rfl
                                have hcz59_2 : wr.cell? ⟨gb233, 2, none⟩ = some (.int .i64 a0_2) := (blk_cell BK233.out 2).trans rfl
                                have hcz59_3 : wr.cell? ⟨gb233, 3, none⟩ = some (.int .i64 a0_3) := (blk_cell BK233.out 3).trans rfl
                                have hcz59_4 : wr.cell? ⟨gb233, 4, none⟩ = some (.int .i64 a0_4) := (blk_cell BK233.out 4).trans rfl
                                have hcz59_5 : wr.cell? ⟨gb233, 5, none⟩ = some (.string a0_5) := (blk_cell BK233.out 5).trans rfl
                                have hcz59_6 : wr.cell? ⟨gb233, 6, none⟩ = some (.slice A0_6 l0_6.length c0_6) := (blk_cell BK233.out 6).trans rfl
                                have hcz59_7 : wr.cell? ⟨gb233, 7, none⟩ = some (.slice A0_7 l0_7.length c0_7) := (blk_cell BK233.out 7).trans rfl
                                have hcz59_8 : wr.cell? ⟨gb233, 8, none⟩ = some (.slice A0_8 l0_8.length c0_8) := (blk_cell BK233.out 8).trans rfl
                                have hfz59_0 := blk_frozen BK233.out 0
                                have hfz59_1 := blk_frozen BK233.out 1
                                have hfz59_2 := blk_frozen BK233.out 2
                                have hfz59_3 := blk_frozen BK233.out 3
                                have hfz59_4 := blk_frozen BK233.out 4
                                have hfz59_5 := blk_frozen BK233.out 5
                                have hfz59_6 := blk_frozen BK233.out 6
                                have hfz59_7 := blk_frozen BK233.out 7
                                have hfz59_8 := blk_frozen BK233.out 8
                                have p244 : 0 ≤ (x6_4 : Int) := of_decide_eq_true (by first | (with_reducible assumption) | assumption)
                                have q244 : x6_4 < (l0_7.length : Int) := of_decide_eq_true (by first | (with_reducible assumption) | assumption)
                                obtain ⟨ad244, e244, hx244_0⟩ := Kd.at_int HR0_7.out x6_4 p244 q244
                                cases e244
                                replace hx244_0 := (HB.out.cell (World.block_lt_of_cell? w _ hx244_0)).trans hx244_0
                                replace p244 := eq_true p244
                                replace q244 := eq_true q244
                                have p245 : 0 ≤ (x6_4 : Int) := of_decide_eq_true (by first | (with_reducible assumption) | assumption)
                                have q245 : x6_4 < (l0_7.length : Int) := of_decide_eq_true (by first | (with_reducible assumption) | assumption)
                                obtain ⟨ad245, e245, hx245_0⟩ := Kd.at_int HR0_7.out x6_4 p245 q245
                                obtain rfl : ad244 = ad245 := (by injection e245)
                                replace hx245_0 := (HB.out.cell (World.block_lt_of_cell? w _ hx245_0)).trans hx245_0
                                replace p245 := eq_true p245
                                replace q245 := eq_true q245
                                go_wp2
                                go_ret
                                exact ⟨by first | rfl | (simp [errW_none, errW_some] <;> rfl) | (simp [*, errW_none, errW_some] <;> rfl), by repeat (first | (with_reducible first | exact HB.out | apply below_alloc | apply pw_below_drewN | apply below_drew1 | refine below_set ?_ GE233.out) | exact HB.out)⟩
                              · rw [if_neg c58] at H
                                have c58b0 : decide (2 < (rd l0_7 x6_4)) = false := decide_eq_false c58
                                clear c58
                                have H' := Aside0.mk H
                                clear H
                                have hcz60_0 : wr.cell? ⟨gb233, 0, none⟩ = some (.int .i64 a0_0) := (blk_cell BK233.out 0).trans rfl
                                have hcz60_1 : wr.cell? ⟨gb233, 1, none⟩ = some (.int .i64 a0_1) := (blk_cell BK233.out 1).trans rfl
                                have hcz60_2 : wr.cell? ⟨gb233, 2, none⟩ = some (.int .i64 a0_2) := (blk_cell BK233.out 2).trans rfl
                                have hcz60_3 : wr.cell? ⟨gb233, 3, none⟩ = some (.int .i64 a0_3) := (blk_cell BK233.out 3).trans rfl
                                have hcz60_4 : wr.cell? ⟨gb233, 4, none⟩ = some (.int .i64 a0_4) := (blk_cell BK233.out 4).trans rfl
                                have hcz60_5 : wr.cell? ⟨gb233, 5, none⟩ = some (.string a0_5) := (blk_cell BK233.out 5).trans rfl
                                have hcz60_6 : wr.cell? ⟨gb233, 6, none⟩ = some (.slice A0_6 l0_6.length c0_6) := (blk_cell BK233.out 6).trans rfl
                                have hcz60_7 : wr.cell? ⟨gb233, 7, none⟩ = some (.slice A0_7 l0_7.length c0_7) := (blk_cell BK233.out 7).trans rfl
                                have hcz60_8 : wr.cell? ⟨gb233, 8, none⟩ = some (.slice A0_8 l0_8.length c0_8) := (blk_cell BK233.out 8).trans rfl
                                have hfz60_0 := blk_frozen BK233.out 0
                                have hfz60_1 := blk_frozen BK233.out 1
                                have hfz60_2 := blk_frozen BK233.out 2
                                have hfz60_3 := blk_frozen BK233.out 3
                                have hfz60_4 := blk_frozen BK233.out 4
                                have hfz60_5 := blk_frozen BK233.out 5
                                have hfz60_6 := blk_frozen BK233.out 6
                                have hfz60_7 := blk_frozen BK233.out 7
                                have hfz60_8 := blk_frozen BK233.out 8
                                have p244 : 0 ≤ (x6_4 : Int) := of_decide_eq_true (by first | (with_reducible assumption) | assumption)
                                have q244 : x6_4 < (l0_7.length : Int) := of_decide_eq_true (by first | (with_reducible assumption) | assumption)
                                obtain ⟨ad244, e244, hx244_0⟩ := Kd.at_int HR0_7.out x6_4 p244 q244
                                cases e244
                                replace hx244_0 := (HB.out.cell (World.block_lt_of_cell? w _ hx244_0)).trans hx244_0
                                replace p244 := eq_true p244
                                replace q244 := eq_true q244
                                have p245 : 0 ≤ (x6_4 : Int) := of_decide_eq_true (by first | (with_reducible assumption) | assumption)
                                have q245 : x6_4 < (l0_7.length : Int) := of_decide_eq_true (by first | (with_reducible assumption) | assumption)
                                obtain ⟨ad245, e245, hx245_0⟩ := Kd.at_int HR0_7.out x6_4 p245 q245
                                obtain rfl : ad244 = ad245 := (by injection e245)
                                replace hx245_0 := (HB.out.cell (World.block_lt_of_cell? w _ hx245_0)).trans hx245_0
                                replace p245 := eq_true p245
                                replace q245 := eq_true q245
                                go_wp2
                                go_roundg k4
                                case measure => have := HK1.out; have := HJ13.out; have := HK3.out; have := HK4.out; omega
                                case rel => exact ⟨(wrap64 (x6_4 + 1)), (by first | rfl | (simp; done) | (simp [*]; done)), H', ⟨by have := HK1.out; have := HJ13.out; have := HK3.out; have := HK4.out; omega⟩, ⟨by (with_reducible repeat (first | refine blk_drewN ?_ _ | refine blk_drew ?_ | refine blk_alloc ?_ _)); exact BK233.out⟩, ⟨by repeat (first | (with_reducible first | exact HB.out | apply below_alloc | apply pw_below_drewN | apply below_drew1 | refine below_set ?_ GE233.out) | exact HB.out)⟩⟩
                          · rw [if_neg c55] at H
                            exact absurd H (by simp)
                        · rw [if_neg c54] at H
                          have c54b0 : decide (x6_4 < (l0_7.length : Int)) = false := decide_eq_false c54
                          clear c54
                          obtain rfl := Option.some.inj H
                          have hcz61_0 : wr.cell? ⟨gb233, 0, none⟩ = some (.int .i64 a0_0) := (blk_cell BK233.out 0).trans rfl
                          have hcz61_1 : wr.cell? ⟨gb233, 1, none⟩ = some (.int .i64 a0_1) := (blk_cell BK233.out 1).trans rfl
                          have hcz61_2 : wr.cell? ⟨gb233, 2, none⟩ = some (.int .i64 a0_2) := (blk_cell BK233.out 2).trans rfl
                          have hcz61_3 : wr.cell? ⟨gb233, 3, none⟩ = some (.int .i64 a0_3) := (blk_cell BK233.out 3).trans rfl
                          have hcz61_4 : wr.cell? ⟨gb233, 4, none⟩ = some (.int .i64 a0_4) := (blk_cell BK233.out 4).trans rfl
                          have hcz61_5 : wr.cell? ⟨gb233, 5, none⟩ = some (.string a0_5) := (blk_cell BK233.out 5).trans rfl
                          have hcz61_6 : wr.cell? ⟨gb233, 6, none⟩ = some (.slice A0_6 l0_6.length c0_6) := (blk_cell BK233.out 6).trans rfl
                          have hcz61_7 : wr.cell? ⟨gb233, 7, none⟩ = some (.slice A0_7 l0_7.length c0_7) := (blk_cell BK233.out 7).trans rfl
                          have hcz61_8 : wr.cell? ⟨gb233, 8, none⟩ = some (.slice A0_8 l0_8.length c0_8) := (blk_cell BK233.out 8).trans rfl
                          have hfz61_0 := blk_frozen BK233.out 0
                          have hfz61_1 := blk_frozen BK233.out 1
                          have hfz61_2 := blk_frozen BK233.out 2
                          have hfz61_3 := blk_frozen BK233.out 3
                          have hfz61_4 := blk_frozen BK233.out 4
                          have hfz61_5 := blk_frozen BK233.out 5
                          have hfz61_6 := blk_frozen BK233.out 6
                          have hfz61_7 := blk_frozen BK233.out 7
                          have hfz61_8 := blk_frozen BK233.out 8
                          go_wp2
                          go_ret
                          exact ⟨by first | rfl | (simp [errW_none, errW_some] <;> rfl) | (simp [*, errW_none, errW_some] <;> rfl), by repeat (first | (with_reducible first | exact HB.out | apply below_alloc | apply pw_below_drewN | apply below_drew1 | refine below_set ?_ GE233.out) | exact HB.out)⟩
/-- THE ONE PURE STATEMENT of estafetteref08_Good: yours. -/
def estafetteref08_Good.Pure : Prop := ∀ (x0 : S25), ((Lit.int .i64 x0.f0).wf = true ∧ ((Lit.int .i64 x0.f1).wf = true ∧ ((Lit.int .i64 x0.f2).wf = true ∧ ((Lit.int .i64 x0.f3).wf = true ∧ ((Lit.int .i64 x0.f4).wf = true ∧ (x0.f5.size ≤ 140737488351232 ∧ ((x0.f6.length * 16 ≤ 140737488351232 ∧ ∀ e0 ∈ x0.f6, e0.size ≤ 140737488351232) ∧ ((x0.f7.length * 8 ≤ 140737488351232 ∧ ∀ e0 ∈ x0.f7, (Lit.int .i64 e0).wf = true) ∧ (x0.f8.length * 16 ≤ 140737488351232 ∧ ∀ e0 ∈ x0.f8, e0.size ≤ 140737488351232))))))))) → ∃ k, estafetteref08_Good.f k x0.f0 x0.f1 x0.f2 x0.f3 x0.f4 x0.f5 x0.f6 x0.f7 x0.f8 = some true

end Go.Proofs.YtljhfaneepehcaaDoor.PB
