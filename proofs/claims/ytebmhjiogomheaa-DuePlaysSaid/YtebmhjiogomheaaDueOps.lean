/- Due's own methods, as the model has them: at, Drop, Set, First, New. -/
import Derived.Test.YtebmhjiogomheaaDuePush
namespace Go.Proofs.Ytebmhjiogomheaa.Hand
open Go.RowKit Go.Proofs.YtebmhjiogomheaaW.PrintWords Go.Proofs.YtebmhjiogomheaaW.PrintLast Go.Proofs.YtebmhjiogomheaaW.PrintMore Go.Proofs.Ytebmhjiogomheaa.PA
set_option linter.unusedVariables false
set_option linter.unusedSimpArgs false
def idxN (id : Int) (p : List En) : Nat := p.findIdx (fun e => e.1 == id)
def idxV (id : Int) (p : List En) : Int := if idxN id p < p.length then (idxN id p : Int) else -1
theorem ret_int {a b : Int} (h : a = b) : Ending.returned (.int .i64 a) = .returned (.int .i64 b) := by rw [h]
theorem idx_hit {id : Int} {p : List En} {k : Nat} (hk : k < p.length) (hle : k ≤ idxN id p) (h : p[k].1 = id) : idxN id p = k := by
  rcases Nat.lt_or_ge k (idxN id p) with hlt | hge
  · have := List.not_of_lt_findIdx hlt
    simp [h] at this
  · omega
theorem idx_miss {id : Int} {p : List En} {k : Nat} (hk : k < p.length) (hle : k ≤ idxN id p) (h : p[k].1 ≠ id) : k + 1 ≤ idxN id p := by
  rcases Nat.lt_or_ge k (idxN id p) with hlt | hge
  · exact hlt
  · have he : idxN id p = k := by omega
    have hw : p.findIdx (fun e => e.1 == id) < p.length := by show idxN id p < _; omega
    have := List.findIdx_getElem (w := hw)
    have e2 : p[p.findIdx (fun e => e.1 == id)] = p[k] := by congr 1
    rw [e2] at this
    exact absurd (by simpa using this) h
theorem idx_end {id : Int} {p : List En} (hle : p.length ≤ idxN id p) : idxV id p = -1 := by
  unfold idxV
  rw [if_neg (by omega)]
theorem rec_at {w : World} {A : Option Addr} {n : Nat} {p : List En} (h : kE.C w A n p) (i : Nat) (hi : i < p.length) :
    ∃ ad, A = some ad ∧ w.cell? (ad.add (i * 2)) = some (.int .i64 p[i].1) ∧ w.cell? ⟨(ad.add (i * 2)).block, (ad.add (i * 2)).off + 1, none⟩ = some (.int .i64 p[i].2) := by
  have hn := Kd.C_len h
  obtain ⟨ad, cs, e, _, hK, hcell⟩ := Kd.C_get h ((0 : Int), (0 : Int)) (i : Int) (by omega) (by omega)
  have hc : ∀ j u, cs[j]? = some u → w.cell? (ad.add (i * 2 + j)) = some u := hcell
  rw [Int.toNat_natCast, List.getD_eq_getElem?_getD, List.getElem?_eq_getElem hi] at hK
  obtain ⟨c0, c1, rfl, h0, h1⟩ := hK
  change c0 = [.int .i64 p[i].1] at h0
  change c1 = [.int .i64 p[i].2] at h1
  subst h0 h1
  exact ⟨ad, e, hc 0 _ rfl, by rw [← add_field _ _ 1 (by omega)]; exact hc 1 _ rfl⟩
set_option maxHeartbeats 4000000 in
theorem at1_calls (e : En) (g : Addr) (d : Int) (w : World) (hd : w.cell? g = some (.int .i64 d)) :
    Calls Try.prog 25 #[.agg #[.int .i64 e.1, .int .i64 e.2], .pointer (some g)] w fun r w' => r = .returned (.bool (e.1 == d)) ∧ Below w.heap.size w w' := by
  have hg := World.block_lt_of_cell? w _ hd
  go_enter Try.func25, Try.ntmps25
  go_wp2
  go_ret
  exact ⟨rfl, (Below.refl _ _).alloc (Nat.le_refl _) _⟩
set_option maxHeartbeats 8000000 in
set_option maxRecDepth 100000 in
theorem index_calls (A : Option Addr) (c : Nat) (p : List En) (g : Addr) (d : Int) (w : World) (hr : kE.C w A p.length p) (hl : p.length ≤ 1000000) (hd : w.cell? g = some (.int .i64 d)) :
    Calls Try.prog 24 #[.slice A p.length c, .func (.func 25) #[] #[.pointer (some g)]] w fun e w' => e = .returned (.int .i64 (idxV d p)) ∧ Below w.heap.size w w' := by
  have HR := Aside0.mk hr
  have HD := Aside0.mk hd
  clear hr hd
  go_enter Try.func24, Try.ntmps24
  go_wp2
  go_loopw [8] (fun v8 wr => ∃ k : Nat, v8 = .int .i64 k ∧ k ≤ p.length ∧ Aside0 (k ≤ idxN d p ∧ Below w.heap.size w wr)) (fun v8 _ => p.length - (intOf v8).toNat)
  case atStart => exact ⟨0, rfl, Nat.zero_le _, ⟨Nat.zero_le _, Below.refl _ _⟩⟩
  case round =>
    obtain ⟨k, rfl, hk, HI⟩ := hrel
    by_cases hlt : k < p.length
    · obtain ⟨ad, rfl, hx0, hx1⟩ := rec_at HR.out k hlt
      have hx0r := pw_cell_below HI.out.2 hx0
      have hx1r := pw_cell_below HI.out.2 hx1
      have hdr := pw_cell_below HI.out.2 HD.out
      clear hx0 hx1
      obtain ⟨h, hh⟩ : ∃ h, h = p[k] := ⟨_, rfl⟩
      rw [← hh] at hx0r hx1r
      have HH := Aside0.mk hh
      clear hh
      go_wp2_with fail
      refine (at1_calls h g d wr hdr).mono ?_
      rintro e w1 ⟨rfl, hb1⟩
      have HB := Aside0.mk (HI.out.2.trans (hb1.mono HI.out.2.size))
      clear hb1
      by_cases hb : h.1 = d
      · have hb' : (h.1 == d) = true := by rw [hb]; exact beq_self_eq_true d
        have HE := Aside0.mk (show idxV d p = k from by
          have := idx_hit hlt HI.out.1 (by rw [← HH.out]; exact hb)
          unfold idxV
          rw [this, if_pos hlt])
        clear hb
        rw [hb']
        clear hb'
        go_wp2
        go_ret
        exact ⟨ret_int HE.out.symm, HB.out⟩
      · have hb' : (h.1 == d) = false := beq_eq_false_iff_ne.2 hb
        have HE := Aside0.mk (idx_miss hlt HI.out.1 (by rw [← HH.out]; exact hb))
        clear hb
        rw [hb']
        clear hb'
        go_wp2
        go_roundw
        case rel => exact ⟨k + 1, by go_num, hlt, ⟨HE.out, HB.out⟩⟩
        case measure => simp [intOf]; omega
    · obtain rfl : k = p.length := by omega
      have HE := Aside0.mk (idx_end HI.out.1)
      go_wp2
      go_ret
      exact ⟨ret_int HE.out.symm, HI.out.2⟩
set_option maxHeartbeats 8000000 in
set_option maxRecDepth 100000 in
theorem at_calls (w : World) (F : Nat → Prop) (q : Nat) (p : List En) (h : Pl w F q p) (id : Int) (hl : p.length ≤ 1000000) :
    Calls Try.prog 18 #[.pointer (some ⟨q, 0, none⟩), .int .i64 id] w fun e w' => e = .returned (.int .i64 (idxV id p)) ∧ Below w.heap.size w w' := by
  obtain ⟨A, c, h1, h2, _⟩ := h
  have hz : ∀ ob, (w.alloc ob).cell? ⟨q, 0, none⟩ = some (.slice A p.length c) := fun ob => (blk_cell (blk_alloc h1 ob) 0).trans rfl
  have HI := Aside0.mk (index_calls A c p ⟨w.heap.size, 0, none⟩ id (w.alloc (.cells #[.int .i64 id] 3)) (Kd.C_alloc (Kd.R_reads' h2).2.2 _) hl (by simp))
  clear h1 h2
  go_enter Try.func18, Try.ntmps18
  go_wp2_with fail
  refine HI.out.mono ?_
  rintro e w1 ⟨rfl, hb1⟩
  have HB := Aside0.mk ((below_alloc (Below.refl w.heap.size w) (.cells #[.int .i64 id] 3)).trans (hb1.mono (by simp)))
  clear hb1 HI
  go_wp2
  go_ret
  exact ⟨rfl, HB.out⟩
/-! ## Drop, Set, First -/
def dropF (p : List En) (id : Int) : List En := if idxN id p < p.length then rmF p (idxN id p) else p
def setF (p : List En) (id t : Int) : List En := upF ((dropF p id).length + 1) (dropF p id ++ [(id, t)]) (dropF p id).length
def firstF (p : List En) (now : Int) : Int × Bool := match p with | [] => (0, false) | e :: _ => if now < e.2 then (0, false) else (e.1, true)
theorem rmF_len (p : List En) (i : Nat) (hi : i < p.length) : (rmF p i).length + 1 = p.length := by
  unfold rmF
  split
  · rw [List.length_take]; omega
  · rw [List.length_take]
    split
    · rw [downF_len, swpE_len]; omega
    · rw [upF_len, downF_len, swpE_len]; omega
theorem dropF_len (p : List En) (id : Int) : (dropF p id).length ≤ p.length := by
  unfold dropF
  split
  · rename_i h
    have := rmF_len p _ h
    omega
  · exact Nat.le_refl _
set_option maxHeartbeats 8000000 in
set_option maxRecDepth 100000 in
theorem drop_calls (w : World) (F : Nat → Prop) (q : Nat) (p : List En) (h : Pl w F q p) (id : Int) (hl : p.length ≤ 100000) :
    Calls Try.prog 10 #[.pointer (some ⟨q, 0, none⟩), .int .i64 id] w fun e w' => e = .returned (.bool (decide (idxN id p < p.length))) ∧ Pl w' F q (dropF p id) ∧ Chg F w w' := by
  have HA := Aside0.mk (at_calls w F q p h id (by omega))
  have H := Aside0.mk h
  clear h
  by_cases hi : idxN id p < p.length
  · have hv : idxV id p = (idxN id p : Int) := if_pos hi
    have HV := Aside0.mk hv
    have HI := Aside0.mk hi
    rw [decide_eq_true hi]
    rw [hv] at HA
    obtain ⟨k, hk⟩ : ∃ k, k = idxN id p := ⟨_, rfl⟩
    rw [← hk] at HA
    have HK := Aside0.mk hk
    have hk0 : ¬ (k : Int) < 0 := by omega
    clear hv hi hk
    go_enter Try.func10, Try.ntmps10
    go_wp2_with fail
    refine HA.out.mono ?_
    rintro e w1 ⟨rfl, hb1⟩
    have HP1 := Aside0.mk (H.out.below hb1)
    have HC1 := Aside0.mk (Chg.of_below hb1 F)
    have HA1 := Aside0.mk (at_calls w1.drew F q p (HP1.out.below (below_drew (Below.refl _ _))) id (by omega))
    rw [HV.out, ← HK.out] at HA1
    clear hb1 HA
    go_wp2
    refine start_ (n := 8) (S := fun w' => True) (ds := []) #[false, false, false, false, false, false, false, false] (by kernel_rfl) rfl rfl trivial (fun hHeld => ?_)
    refine pure_ (i := 0) (N := some 13) (v := ?_) (a' := ?_) #[true, false, false, false, false, false, false, false] rfl rfl (by kernel_rfl) (fun _ _ _ h => h) (Or.inl ⟨by rfl, ?_⟩) ?_ ?_
    rotate_left
    · intro w'
      go_simp
      with_reducible rfl
    rotate_left
    · simp only [Act.put, List.setIfInBounds_toArray, List.set_cons_zero, List.set_cons_succ, i64_w, i32_w]
      rfl
    refine pure_ (i := 1) (N := some 14) (v := ?_) (a' := ?_) #[true, true, false, false, false, false, false, false] rfl rfl (by kernel_rfl) (fun _ _ _ h => h) (Or.inl ⟨by rfl, ?_⟩) ?_ ?_
    rotate_left
    · intro w'
      go_simp
      with_reducible rfl
    rotate_left
    · simp only [Act.put, List.setIfInBounds_toArray, List.set_cons_zero, List.set_cons_succ, i64_w, i32_w]
      rfl
    refine pure_ (i := 2) (N := some 15) (v := ?_) (a' := ?_) #[true, true, true, false, false, false, false, false] rfl rfl (by kernel_rfl) (fun _ _ _ h => h) (Or.inl ⟨by rfl, ?_⟩) ?_ ?_
    rotate_left
    · intro w'
      go_simp
      with_reducible rfl
    rotate_left
    · simp only [Act.put, List.setIfInBounds_toArray, List.set_cons_zero, List.set_cons_succ, i64_w, i32_w]
      rfl
    refine pure_ (i := 3) (N := some 16) (v := ?_) (a' := ?_) #[true, true, true, true, false, false, false, false] rfl rfl (by kernel_rfl) (fun _ _ _ h => h) (Or.inl ⟨by rfl, ?_⟩) ?_ ?_
    rotate_left
    · intro w'
      go_simp
      with_reducible rfl
    rotate_left
    · simp only [Act.put, List.setIfInBounds_toArray, List.set_cons_zero, List.set_cons_succ, i64_w, i32_w]
      rfl
    refine pure_ (i := 4) (N := some 17) (v := ?_) (a' := ?_) #[true, true, true, true, true, false, false, false] rfl rfl (by kernel_rfl) (fun _ _ _ h => h) (Or.inl ⟨by rfl, ?_⟩) ?_ ?_
    rotate_left
    · intro w'
      go_simp
      with_reducible rfl
    rotate_left
    · simp only [Act.put, List.setIfInBounds_toArray, List.set_cons_zero, List.set_cons_succ, i64_w, i32_w]
      rfl
    refine pure_ (i := 5) (N := some 18) (v := ?_) (a' := ?_) #[true, true, true, true, true, true, false, false] rfl rfl (by kernel_rfl) (fun _ _ _ h => h) (Or.inl ⟨by rfl, ?_⟩) ?_ ?_
    rotate_left
    · intro w'
      go_simp
      with_reducible rfl
    rotate_left
    · simp only [Act.put, List.setIfInBounds_toArray, List.set_cons_zero, List.set_cons_succ, i64_w, i32_w]
      rfl
    refine one_ (i := 6) (N := some 19) #[true, true, true, true, true, true, true, false] rfl rfl (by kernel_rfl) (by decide) (fun K hK => ?_)
    refine goes_ Try.func18 (by kernel_rfl) rfl #[.pointer (some ⟨q, 0, none⟩), .int .i64 id] (by rfl) rfl rfl (by simp only [List.map_toArray, List.map_cons, List.map_nil]; rfl) ?_
    with_reducible refine (HA1.out).mono ?_
    rintro e w3 ⟨rfl, hb3⟩
    refine ⟨_, rfl, ?_⟩
    have HP3 := Aside0.mk ((HP1.out.below (below_drew (Below.refl _ _))).below hb3)
    have HC3 := Aside0.mk ((HC1.out.drew).below hb3)
    have HRM := Aside0.mk (heapRemove_calls w3 F q p HP3.out k (by rw [HK.out]; exact HI.out) hl)
    clear hb3
    refine hK.out _ _ trivial (fun hHeld => ?_)
    clear hK K
    refine norm_ (a' := ?_) ?_ ?_
    rotate_left
    · show Act.put _ (some 19) _ = _
      simp only [Act.put, List.setIfInBounds_toArray, List.set_cons_zero, List.set_cons_succ, i64_w, i32_w]
      rfl
    refine one_ (i := 7) (N := some 20) #[true, true, true, true, true, true, true, true] rfl rfl (by kernel_rfl) (by decide) (fun K hK => ?_)
    refine goes_ Try.func19 (by kernel_rfl) rfl #[pI q, .int .i64 k] (by rfl) rfl rfl (by simp only [List.map_toArray, List.map_cons, List.map_nil]; rfl) ?_
    with_reducible refine (HRM.out).mono ?_
    rintro e w4 ⟨⟨vr, rfl⟩, hP4, hC4⟩
    refine ⟨_, rfl, ?_⟩
    have HP4 := Aside0.mk hP4
    have HC4 := Aside0.mk (HC3.out.then_ hC4 (fun k hk => .inl hk))
    clear hP4 hC4
    refine hK.out _ _ trivial (fun hHeld => ?_)
    clear hK K
    refine norm_ (a' := ?_) ?_ ?_
    rotate_left
    · show Act.put _ (some 20) _ = _
      simp only [Act.put, List.setIfInBounds_toArray, List.set_cons_zero, List.set_cons_succ, i64_w, i32_w]
      rfl
    refine done_ (by kernel_rfl) ?_
    go_wp2
    go_ret
    refine ⟨rfl, ?_, HC4.out⟩
    unfold dropF
    rw [if_pos HI.out, ← HK.out]
    exact HP4.out
  · have hv : idxV id p = -1 := if_neg hi
    have HI := Aside0.mk hi
    rw [decide_eq_false hi]
    rw [hv] at HA
    clear hv hi
    go_enter Try.func10, Try.ntmps10
    go_wp2_with fail
    refine HA.out.mono ?_
    rintro e w1 ⟨rfl, hb1⟩
    have HP1 := Aside0.mk (H.out.below hb1)
    have HC1 := Aside0.mk (Chg.of_below hb1 F)
    clear hb1 HA
    go_wp2
    go_ret
    refine ⟨rfl, ?_, HC1.out⟩
    unfold dropF
    rw [if_neg HI.out]
    exact HP1.out
set_option maxHeartbeats 8000000 in
set_option maxRecDepth 100000 in
theorem set_calls (w : World) (F : Nat → Prop) (q : Nat) (p : List En) (h : Pl w F q p) (id t : Int) (hl : p.length ≤ 99999) :
    Calls Try.prog 12 #[.pointer (some ⟨q, 0, none⟩), .int .i64 id, .int .i64 t] w fun e w' => e = .returned (.tuple #[]) ∧ ∃ F', Pl w' F' q (setF p id t) ∧ Grew F F' w w' ∧ Chg F w w' := by
  have HD := Aside0.mk (drop_calls w F q p h id (by omega))
  clear h
  go_enter Try.func12, Try.ntmps12
  go_wp2_with fail
  refine HD.out.mono ?_
  rintro e w1 ⟨rfl, hP1, hC1⟩
  have HC1 := Aside0.mk hC1
  have HPU := Aside0.mk (heapPush_calls w1 F q (dropF p id) (id, t) hP1 (by have := dropF_len p id; omega))
  clear hP1 hC1 HD
  go_wp2_with fail
  refine HPU.out.mono ?_
  rintro e w2 ⟨rfl, F2, hP2, hG2, hC2⟩
  have HP2 := Aside0.mk hP2
  have HG2 := Aside0.mk hG2
  have HC2 := Aside0.mk (HC1.out.then_ hC2 (fun k hk => .inl hk))
  clear hP2 hG2 hC2 HPU
  go_wp2
  refine bodyPost_end (results_none rfl _ _ _) rfl ?_
  exact ⟨rfl, F2, HP2.out, fun k hk => ⟨(HG2.out k hk).1.elim .inl (fun h => .inr (Nat.le_trans HC1.out.size h)), (HG2.out k hk).2⟩, HC2.out⟩
def FirstPost (p : List En) (now : Int) (w : World) (e : Ending) (w' : World) : Prop := e = .returned (.tuple #[.int .i64 (firstF p now).1, .bool (firstF p now).2]) ∧ w' = w
set_option maxHeartbeats 8000000 in
set_option maxRecDepth 100000 in
theorem first_calls (w : World) (F : Nat → Prop) (q : Nat) (p : List En) (h : Pl w F q p) (now : Int) (hl : p.length ≤ 100000) :
    Calls Try.prog 14 #[.pointer (some ⟨q, 0, none⟩), .int .i64 now] w (FirstPost p now w) := by
  cases p with
  | nil =>
    obtain ⟨A, c, hz, _, _⟩ := h.cell
    have hz' : w.cell? ⟨q, 0, none⟩ = some (.slice A 0 c) := hz
    clear h hz
    go_enter Try.func14, Try.ntmps14
    go_wp2
    go_ret2
    exact ⟨rfl, rfl⟩
  | cons x p =>
    obtain ⟨g, c, hz, hR, _⟩ := h.some (by simp)
    obtain ⟨h0, h1⟩ := pile_at hR 0 (by simp)
    have hz' : w.cell? ⟨q, 0, none⟩ = some (.slice (some ⟨g, 0, none⟩) (p.length + 1) c) := hz
    have h0' : w.cell? ⟨g, 0, none⟩ = some (.int .i64 x.1) := h0
    have h1' : w.cell? ⟨g, 1, none⟩ = some (.int .i64 x.2) := h1
    have hpl : ((p.length : Int) + 1 == 0) = false := beq_eq_false_iff_ne.2 (by omega)
    clear h hz hR h0 h1
    by_cases hn : now < x.2
    · have HF := Aside0.mk (show firstF (x :: p) now = (0, false) from if_pos hn)
      go_enter Try.func14, Try.ntmps14
      go_wp2
      go_ret2
      unfold FirstPost
      rw [HF.out]
      exact ⟨rfl, rfl⟩
    · have HF := Aside0.mk (show firstF (x :: p) now = (x.1, true) from if_neg hn)
      go_enter Try.func14, Try.ntmps14
      go_wp2
      go_ret2
      unfold FirstPost
      rw [HF.out]
      exact ⟨rfl, rfl⟩
theorem new_calls (w : World) : Calls Try.prog 9 #[] w fun e w' => ∃ q, e = .returned (.pointer (some ⟨q, 0, none⟩)) ∧ Pl w' (fun k => w.heap.size ≤ k ∧ k < w'.heap.size) q [] ∧ Below w.heap.size w w' := by
  go_enter Try.func9, Try.ntmps9
  go_wp2
  go_ret
  refine ⟨_, rfl, ⟨none, 0, blk_new w _, Kd.R_nil _ _ _ _ _, Nat.le_refl _, by simp⟩, below_alloc (Below.refl _ _) _⟩
end Go.Proofs.Ytebmhjiogomheaa.Hand
