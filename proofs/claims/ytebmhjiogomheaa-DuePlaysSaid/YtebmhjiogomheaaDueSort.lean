/- entry.compare, as slices.SortFunc wants it: it draws and makes, and writes nothing. -/
import Derived.Test.YtebmhjiogomheaaDueNone
import Derived.Test.YtebmhjiogomheaaSrt
namespace Go.Proofs.Ytebmhjiogomheaa.Hand
open Go.RowKit Go.Sort Go.Proofs.YtebmhjiogomheaaW.PrintWords Go.Proofs.YtebmhjiogomheaaW.PrintLast Go.Proofs.YtebmhjiogomheaaW.PrintMore Go.Proofs.Ytebmhjiogomheaa.PA
set_option linter.unusedVariables false
set_option linter.unusedSimpArgs false
/-- Some draws, some new blocks. -/
def Gq (w w' : World) : Prop := ∃ (q : Nat) (os : Array Obj), w' = grow (w.drewN q) os
theorem Gq.refl (w : World) : Gq w w := ⟨0, #[], by simp [grow, World.drewN]⟩
theorem Gq.alloc {w w' : World} (h : Gq w w') (o : Obj) : Gq w (w'.alloc o) := by
  obtain ⟨q, os, rfl⟩ := h
  exact ⟨q, os ++ #[o], by rw [alloc_eq_grow, grow_grow]⟩
theorem Gq.drewN {w w' : World} (h : Gq w w') (n : Nat) : Gq w (w'.drewN n) := by
  obtain ⟨q, os, rfl⟩ := h
  exact ⟨q + n, os, by simp [grow, World.drewN, Nat.add_assoc]⟩
theorem Gq.drew {w w' : World} (h : Gq w w') : Gq w w'.drew := h.drewN 1
theorem Gq.drawn {w w' w2 : World} (h : Gq w w') (k : Drawn0 w' w2) : Gq w w2 := by
  obtain ⟨⟨n, rfl⟩⟩ := k
  exact h.drewN n
theorem C_two {W : World} {g e : Nat} {x y : Int} (hb : W.heap[g]? = some (.cells #[.int .i64 x, .int .i64 y] e (0, 0))) : Kd.C (Kd.int .i64) W (some ⟨g, 0, none⟩) [x, y].length [x, y] := by
  refine Kd.C_of_reads (d := (0 : Int)) ⟨rfl, (show 2 ≤ 9223372036854775807 by decide), fun _ => ⟨_, rfl, fun j hj => ?_⟩⟩
  rw [add_plain]
  rcases j with _ | _ | j
  · exact (blk_cell hb 0).trans rfl
  · exact (blk_cell hb 1).trans rfl
  · simp at hj; omega
theorem cell_lt' {w : World} {a : Addr} {v : Value} (h : w.cell? a = some v) : a.block < w.heap.size := by
  rcases Nat.lt_or_ge a.block w.heap.size with h1 | h1
  · exact h1
  · unfold World.cell? at h
    rw [Array.getElem?_eq_none h1] at h
    simp at h
theorem cellLow {w w' : World} {a : Addr} {v : Value} (h : w.cell? a = some v) (hb : Below w.heap.size w w') : w'.cell? a = some v := (hb.cell (cell_lt' h)).trans h
set_option maxHeartbeats 8000000 in
set_option maxRecDepth 100000 in
theorem compare_grow (x y : En) (w : World) :
    Calls Try.prog 23 #[.agg #[.int .i64 x.1, .int .i64 x.2], .agg #[.int .i64 y.1, .int .i64 y.2]] w fun e w' => e = .returned (.int .i64 (cmpE x y)) ∧ Gq w w' := by
  obtain ⟨c1, hc1⟩ : ∃ c, c = (if x.2 < y.2 then (-1 : Int) else if y.2 < x.2 then 1 else 0) := ⟨_, rfl⟩
  obtain ⟨c2, hc2⟩ : ∃ c, c = (if x.1 < y.1 then (-1 : Int) else if y.1 < x.1 then 1 else 0) := ⟨_, rfl⟩
  have H1 := Aside0.mk (fun w => cmp_Compare_int.calls x.2 y.2 c1 w (by rw [compare_one, hc1]))
  have H2 := Aside0.mk (fun w => cmp_Compare_int.calls x.1 y.1 c2 w (by rw [compare_one, hc2]))
  have HE := Aside0.mk (show (if c1 = 0 then c2 else c1) = cmpE x y from by
    rw [hc1, hc2]
    unfold cmpE
    repeat' split
    all_goals first | rfl | omega)
  have H3 := Aside0.mk (show ∀ (A : Option Addr) (w : World), Kd.C (Kd.int .i64) w A [c1, c2].length [c1, c2] → Calls Try.prog 31 #[.slice A 2 2] w fun e w' => e = .returned (.int .i64 (cmpE x y)) ∧ Drawn0 w w' from fun A w h => cmp_Or_int.calls 3 A 2 [c1, c2] _ w h (Nat.le_refl 2) (by rw [or_two c1 c2, HE.out]))
  clear hc1 hc2
  go_enter Try.func23, Try.ntmps23
  go_wp2
  obtain ⟨w5, hw5⟩ : ∃ w5, w5 = (w.alloc (.cells #[.int .i64 x.1, .int .i64 x.2] 55)).alloc (.cells #[.int .i64 y.1, .int .i64 y.2] 55) := ⟨_, rfl⟩
  rw [← hw5]
  have HG5 := Aside0.mk (show Gq w w5 from by rw [hw5]; exact ((Gq.refl w).alloc _).alloc _)
  have hb2 : w5.heap[w.heap.size]? = some (.cells #[.int .i64 x.1, .int .i64 x.2] 55 (0, 0)) := by rw [hw5]; exact blk_alloc (blk_new w _) _
  have hb3 : w5.heap[w.heap.size + 1]? = some (.cells #[.int .i64 y.1, .int .i64 y.2] 55 (0, 0)) := by
    have h := blk_new (w.alloc (.cells #[.int .i64 x.1, .int .i64 x.2] 55)) (.cells #[.int .i64 y.1, .int .i64 y.2] 55)
    rw [World.size_alloc, ← hw5] at h
    exact h
  obtain ⟨b2, hq2⟩ : ∃ b, b = w.heap.size := ⟨_, rfl⟩
  obtain ⟨b3, hq3⟩ : ∃ b, b = w.heap.size + 1 := ⟨_, rfl⟩
  rw [← hq3] at hb3
  rw [← hq2] at hb2
  rw [← hq3, ← hq2]
  have HX0 := Aside0.mk (show w5.cell? ⟨b2, 0, none⟩ = some (.int .i64 x.1) from (blk_cell hb2 0).trans rfl)
  have HX1 := Aside0.mk (show w5.cell? ⟨b2, 1, none⟩ = some (.int .i64 x.2) from (blk_cell hb2 1).trans rfl)
  have HY0 := Aside0.mk (show w5.cell? ⟨b3, 0, none⟩ = some (.int .i64 y.1) from (blk_cell hb3 0).trans rfl)
  have HY1 := Aside0.mk (show w5.cell? ⟨b3, 1, none⟩ = some (.int .i64 y.2) from (blk_cell hb3 1).trans rfl)
  clear hw5 hb2 hb3 hq2 hq3
  go_wp2
  refine start_ (n := 13) (S := fun w' => w'.cell? ⟨b2, 0, none⟩ = some (.int .i64 x.1) ∧ w'.cell? ⟨b2, 1, none⟩ = some (.int .i64 x.2) ∧ w'.cell? ⟨b3, 0, none⟩ = some (.int .i64 y.1) ∧ w'.cell? ⟨b3, 1, none⟩ = some (.int .i64 y.2)) (ds := []) #[false, false, false, false, false, false, false, false, false, false, false, false, false] (by kernel_rfl) rfl rfl ⟨cellLow HX0.out (below_drew (Below.refl _ _)), cellLow HX1.out (below_drew (Below.refl _ _)), cellLow HY0.out (below_drew (Below.refl _ _)), cellLow HY1.out (below_drew (Below.refl _ _))⟩ (fun hHeld => ?_)
  refine pure_ (i := 0) (N := some 5) (v := ?_) (a' := ?_) #[true, false, false, false, false, false, false, false, false, false, false, false, false] rfl rfl (by kernel_rfl) (fun _ _ _ h => h) (Or.inl ⟨by rfl, ?_⟩) ?_ ?_
  rotate_left
  · intro w'
    go_simp
    with_reducible rfl
  rotate_left
  · simp only [Act.put, List.setIfInBounds_toArray, List.set_cons_zero, List.set_cons_succ, i64_w, i32_w]
    rfl
  refine pure_ (i := 2) (N := some 7) (v := ?_) (a' := ?_) #[true, false, true, false, false, false, false, false, false, false, false, false, false] rfl rfl (by kernel_rfl) (fun _ _ _ h => h) (Or.inl ⟨by rfl, ?_⟩) ?_ ?_
  rotate_left
  · intro w'
    go_simp
    with_reducible rfl
  rotate_left
  · simp only [Act.put, List.setIfInBounds_toArray, List.set_cons_zero, List.set_cons_succ, i64_w, i32_w]
    rfl
  refine pure_ (i := 5) (N := some 10) (v := ?_) (a' := ?_) #[true, false, true, false, false, true, false, false, false, false, false, false, false] rfl rfl (by kernel_rfl) (fun _ _ _ h => h) (Or.inl ⟨by rfl, ?_⟩) ?_ ?_
  rotate_left
  · intro w'
    go_simp
    with_reducible rfl
  rotate_left
  · simp only [Act.put, List.setIfInBounds_toArray, List.set_cons_zero, List.set_cons_succ, i64_w, i32_w]
    rfl
  refine pure_ (i := 7) (N := some 12) (v := ?_) (a' := ?_) #[true, false, true, false, false, true, false, true, false, false, false, false, false] rfl rfl (by kernel_rfl) (fun _ _ _ h => h) (Or.inl ⟨by rfl, ?_⟩) ?_ ?_
  rotate_left
  · intro w'
    go_simp
    with_reducible rfl
  rotate_left
  · simp only [Act.put, List.setIfInBounds_toArray, List.set_cons_zero, List.set_cons_succ, i64_w, i32_w]
    rfl
  refine take_ (i := 1) (N := some 6) (v := ?_) (a' := ?_) #[true, true, true, false, false, true, false, true, false, false, false, false, false] rfl rfl (by kernel_rfl) (fun _ _ _ h => h) (Or.inl ⟨by rfl, ?_⟩) hHeld ?_ ?_
  rotate_left
  · rintro w' ⟨s0, s1, s2, s3⟩
    go_simp
    with_reducible rfl
  rotate_left
  · simp only [Act.put, List.setIfInBounds_toArray, List.set_cons_zero, List.set_cons_succ, i64_w, i32_w]
    rfl
  refine take_ (i := 3) (N := some 8) (v := ?_) (a' := ?_) #[true, true, true, true, false, true, false, true, false, false, false, false, false] rfl rfl (by kernel_rfl) (fun _ _ _ h => h) (Or.inl ⟨by rfl, ?_⟩) hHeld ?_ ?_
  rotate_left
  · rintro w' ⟨s0, s1, s2, s3⟩
    go_simp
    with_reducible rfl
  rotate_left
  · simp only [Act.put, List.setIfInBounds_toArray, List.set_cons_zero, List.set_cons_succ, i64_w, i32_w]
    rfl
  refine take_ (i := 6) (N := some 11) (v := ?_) (a' := ?_) #[true, true, true, true, false, true, true, true, false, false, false, false, false] rfl rfl (by kernel_rfl) (fun _ _ _ h => h) (Or.inl ⟨by rfl, ?_⟩) hHeld ?_ ?_
  rotate_left
  · rintro w' ⟨s0, s1, s2, s3⟩
    go_simp
    with_reducible rfl
  rotate_left
  · simp only [Act.put, List.setIfInBounds_toArray, List.set_cons_zero, List.set_cons_succ, i64_w, i32_w]
    rfl
  refine take_ (i := 8) (N := some 13) (v := ?_) (a' := ?_) #[true, true, true, true, false, true, true, true, true, false, false, false, false] rfl rfl (by kernel_rfl) (fun _ _ _ h => h) (Or.inl ⟨by rfl, ?_⟩) hHeld ?_ ?_
  rotate_left
  · rintro w' ⟨s0, s1, s2, s3⟩
    go_simp
    with_reducible rfl
  rotate_left
  · simp only [Act.put, List.setIfInBounds_toArray, List.set_cons_zero, List.set_cons_succ, i64_w, i32_w]
    rfl
  refine one_ (i := 4) (N := some 9) #[true, true, true, true, true, true, true, true, true, false, false, false, false] rfl rfl (by kernel_rfl) (by decide) (fun K hK => ?_)
  refine goes_ Try.func32 (by kernel_rfl) rfl #[.int .i64 x.2, .int .i64 y.2] (by rfl) rfl rfl (by simp only [List.map_toArray, List.map_cons, List.map_nil]; rfl) ?_
  with_reducible refine (H1.out _).mono ?_
  rintro e w6 ⟨rfl, hd6⟩
  refine ⟨_, rfl, ?_⟩
  have HB6 := Aside0.mk ((below_drew (Below.refl w5.heap.size w5)).trans hd6.below)
  have HG6 := Aside0.mk (HG5.out.drew.drawn hd6)
  clear hd6
  refine hK.out _ _ ⟨cellLow HX0.out HB6.out, cellLow HX1.out HB6.out, cellLow HY0.out HB6.out, cellLow HY1.out HB6.out⟩ (fun hHeld => ?_)
  clear hK K
  refine norm_ (a' := ?_) ?_ ?_
  rotate_left
  · show Act.put _ (some 9) _ = _
    simp only [Act.put, List.setIfInBounds_toArray, List.set_cons_zero, List.set_cons_succ, i64_w, i32_w]
    rfl
  refine one_ (i := 9) (N := some 14) #[true, true, true, true, true, true, true, true, true, true, false, false, false] rfl rfl (by kernel_rfl) (by decide) (fun K hK => ?_)
  refine goes_ Try.func32 (by kernel_rfl) rfl #[.int .i64 x.1, .int .i64 y.1] (by rfl) rfl rfl (by simp only [List.map_toArray, List.map_cons, List.map_nil]; rfl) ?_
  with_reducible refine (H2.out _).mono ?_
  rintro e w7 ⟨rfl, hd7⟩
  refine ⟨_, rfl, ?_⟩
  have HB7 := Aside0.mk (HB6.out.trans (hd7.below.mono HB6.out.size))
  have HG7 := Aside0.mk (HG6.out.drawn hd7)
  clear hd7
  refine hK.out _ _ ⟨cellLow HX0.out HB7.out, cellLow HX1.out HB7.out, cellLow HY0.out HB7.out, cellLow HY1.out HB7.out⟩ (fun hHeld => ?_)
  clear hK K
  refine norm_ (a' := ?_) ?_ ?_
  rotate_left
  · show Act.put _ (some 14) _ = _
    simp only [Act.put, List.setIfInBounds_toArray, List.set_cons_zero, List.set_cons_succ, i64_w, i32_w]
    rfl
  refine one_ (i := 10) (N := some 15) #[true, true, true, true, true, true, true, true, true, true, true, false, false] rfl rfl (by kernel_rfl) (by decide) (fun K hK => ?_)
  refine value_ (w1 := ?_) (v := ?_) (by rfl) rfl ?_ ?_
  rotate_left 2
  · go_simp
    constructor
    · rfl
    · rfl
  refine hK.out _ _ ⟨cellLow HX0.out (below_alloc HB7.out _), cellLow HX1.out (below_alloc HB7.out _), cellLow HY0.out (below_alloc HB7.out _), cellLow HY1.out (below_alloc HB7.out _)⟩ (fun hHeld => ?_)
  clear hK K
  refine norm_ (a' := ?_) ?_ ?_
  rotate_left
  · show Act.put _ (some 15) _ = _
    simp only [Act.put, List.setIfInBounds_toArray, List.set_cons_zero, List.set_cons_succ, i64_w, i32_w]
    rfl
  refine one_ (i := 11) (N := some 16) #[true, true, true, true, true, true, true, true, true, true, true, true, false] rfl rfl (by kernel_rfl) (by decide) (fun K hK => ?_)
  refine goes_ Try.func31 (by kernel_rfl) rfl #[.slice (some ⟨w7.heap.size, 0, none⟩) 2 2] (by rfl) rfl rfl (by simp only [List.map_toArray, List.map_cons, List.map_nil]; rfl) ?_
  with_reducible refine (H3.out _ _ (C_two (blk_new w7 _))).mono ?_
  rintro e w8 ⟨rfl, hd8⟩
  refine ⟨_, rfl, ?_⟩
  have HG8 := Aside0.mk ((HG7.out.alloc _).drawn hd8)
  have HB8 := Aside0.mk ((below_alloc HB7.out (.cells #[.int .i64 c1, .int .i64 c2] 3)).trans (hd8.below.mono (Nat.le_trans HB7.out.size (by simp))))
  clear hd8
  refine hK.out _ _ ⟨cellLow HX0.out HB8.out, cellLow HX1.out HB8.out, cellLow HY0.out HB8.out, cellLow HY1.out HB8.out⟩ (fun hHeld => ?_)
  clear hK K
  refine norm_ (a' := ?_) ?_ ?_
  rotate_left
  · show Act.put _ (some 16) _ = _
    simp only [Act.put, List.setIfInBounds_toArray, List.set_cons_zero, List.set_cons_succ, i64_w, i32_w]
    rfl
  refine pure_ (i := 12) (N := some 4) (v := ?_) (a' := ?_) #[true, true, true, true, true, true, true, true, true, true, true, true, true] rfl rfl (by kernel_rfl) (fun _ _ _ h => h) (Or.inl ⟨by rfl, ?_⟩) ?_ ?_
  rotate_left
  · intro w'
    go_simp
    with_reducible rfl
  rotate_left
  · simp only [Act.put, List.setIfInBounds_toArray, List.set_cons_zero, List.set_cons_succ, i64_w, i32_w]
    rfl
  refine done_ (by kernel_rfl) ?_
  go_wp2
  go_ret
  exact ⟨rfl, HG8.out⟩
end Go.Proofs.Ytebmhjiogomheaa.Hand
