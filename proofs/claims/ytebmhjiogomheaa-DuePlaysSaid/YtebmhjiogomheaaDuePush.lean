/- The pile's Push and Pop. -/
import Derived.Test.YtebmhjiogomheaaDueHeap
namespace Go.Proofs.Ytebmhjiogomheaa.Hand
open Go.RowKit Go.Proofs.YtebmhjiogomheaaW.PrintWords Go.Proofs.YtebmhjiogomheaaW.PrintLast Go.Proofs.YtebmhjiogomheaaW.PrintMore Go.Proofs.Ytebmhjiogomheaa.PA
set_option linter.unusedVariables false
set_option linter.unusedSimpArgs false
theorem infoE : (Try.prog.info? 55).map (fun i => (i.zero, i.size, i.bytes)) = some (some (.agg #[.int .i64 0, .int .i64 0]), 2, 16) := by kernel_rfl
/-- Sets of blocks that grow. -/
def Grew (A A' : Nat → Prop) (w w' : World) : Prop := ∀ k, A' k → (A k ∨ w.heap.size ≤ k) ∧ k < w'.heap.size
theorem as_entry (x y : Int) (w : World) : (Instr.typeAssert (.iface 55 (.agg #[.int .i64 x, .int .i64 y])) 20 55 true).run Try.prog w = .ok (.tuple #[.agg #[.int .i64 x, .int .i64 y], .bool true]) w := by kernel_rfl
set_option maxHeartbeats 8000000 in
set_option maxRecDepth 100000 in
theorem push_calls (w : World) (F : Nat → Prop) (q : Nat) (p : List En) (e : En) (h : Pl w F q p) (hl : p.length ≤ 1000000) :
    Calls Try.prog 73 #[.pointer (some ⟨q, 0, none⟩), .iface 55 (.agg #[.int .i64 e.1, .int .i64 e.2])] w fun r w' => r = .returned (.tuple #[]) ∧ ∃ F', Pl w' F' q (p ++ [e]) ∧ Grew F F' w w' ∧ Chg F w w' := by
  obtain ⟨A, c, h1, h2, h3⟩ := h
  have hql := blk_lt h1
  have H2 := Aside0.mk h2
  have H3 := Aside0.mk h3
  have H1 := Aside0.mk h1
  clear h1 h2 h3
  have hta := as_entry e.1 e.2
  go_enter Try.func73, Try.ntmps73
  go_wp2
  obtain ⟨w5, hw5⟩ : ∃ w5, w5 = w.alloc (.cells #[.int .i64 e.1, .int .i64 e.2] 55) := ⟨_, rfl⟩
  rw [← hw5]
  have hb5 : Below w.heap.size w w5 := by rw [hw5]; exact below_alloc (Below.refl w.heap.size w) _
  have hbe : w5.heap[w.heap.size]? = some (.cells #[.int .i64 e.1, .int .i64 e.2] 55 (0, 0)) := by rw [hw5]; exact blk_new w _
  obtain ⟨b4, hb4⟩ : ∃ b, b = w.heap.size := ⟨_, rfl⟩
  rw [← hb4] at hbe
  rw [← hb4]
  have HQ5 := Aside0.mk (blk_below H1.out hb5)
  have HR5 := Aside0.mk (Kd.R_below (Kd.R_bound H2.out) hb5)
  have HBE := Aside0.mk hbe
  have HB5 := Aside0.mk hb5
  have HOWN := Aside0.mk (Kd.R_bound H2.out).1
  have hz5 : w5.cell? ⟨q, 0, none⟩ = some (.slice A p.length c) := (blk_cell HQ5.out 0).trans rfl
  have he0 : w5.cell? ⟨b4, 0, none⟩ = some (.int .i64 e.1) := (blk_cell hbe 0).trans rfl
  have he1 : w5.cell? ⟨b4, 1, none⟩ = some (.int .i64 e.2) := (blk_cell hbe 1).trans rfl
  have HB4 := Aside0.mk hb4
  clear hw5 hbe hb5 hta hb4
  go_wp2
  refine start_ (n := 9) (S := fun w' => w'.cell? ⟨q, 0, none⟩ = some (.slice A p.length c) ∧ w'.cell? ⟨b4, 0, none⟩ = some (.int .i64 e.1) ∧ w'.cell? ⟨b4, 1, none⟩ = some (.int .i64 e.2)) (ds := [8]) #[false, false, false, false, false, false, false, false, false] (by kernel_rfl) rfl rfl ⟨hz5, he0, he1⟩ (fun hHeld => ?_)
  refine pure_ (i := 0) (N := some 12) (v := ?_) (a' := ?_) #[true, false, false, false, false, false, false, false, false] rfl rfl (by kernel_rfl) (fun _ _ _ h => h) (Or.inl ⟨by rfl, ?_⟩) ?_ ?_
  rotate_left
  · intro w'
    go_simp
    with_reducible rfl
  rotate_left
  · simp only [Act.put, List.setIfInBounds_toArray, List.set_cons_zero, List.set_cons_succ, i64_w, i32_w]
    rfl
  refine pure_ (i := 1) (N := some 13) (v := ?_) (a' := ?_) #[true, true, false, false, false, false, false, false, false] rfl rfl (by kernel_rfl) (fun _ _ _ h => h) (Or.inl ⟨by rfl, ?_⟩) ?_ ?_
  rotate_left
  · intro w'
    go_simp
    with_reducible rfl
  rotate_left
  · simp only [Act.put, List.setIfInBounds_toArray, List.set_cons_zero, List.set_cons_succ, i64_w, i32_w]
    rfl
  refine pure_ (i := 2) (N := some 14) (v := ?_) (a' := ?_) #[true, true, true, false, false, false, false, false, false] rfl rfl (by kernel_rfl) (fun _ _ _ h => h) (Or.inl ⟨by rfl, ?_⟩) ?_ ?_
  rotate_left
  · intro w'
    go_simp
    with_reducible rfl
  rotate_left
  · simp only [Act.put, List.setIfInBounds_toArray, List.set_cons_zero, List.set_cons_succ, i64_w, i32_w]
    rfl
  refine take_ (i := 3) (N := some 15) (v := ?_) (a' := ?_) #[true, true, true, true, false, false, false, false, false] rfl rfl (by kernel_rfl) (fun _ _ _ h => h) (Or.inl ⟨by rfl, ?_⟩) hHeld ?_ ?_
  rotate_left
  · rintro w' ⟨s0, s1, s2⟩
    go_simp
    with_reducible rfl
  rotate_left
  · simp only [Act.put, List.setIfInBounds_toArray, List.set_cons_zero, List.set_cons_succ, i64_w, i32_w]
    rfl
  refine take_ (i := 4) (N := some 16) (v := ?_) (a' := ?_) #[true, true, true, true, true, false, false, false, false] rfl rfl (by kernel_rfl) (fun _ _ _ h => h) (Or.inl ⟨by rfl, ?_⟩) hHeld ?_ ?_
  rotate_left
  · rintro w' ⟨s0, s1, s2⟩
    go_simp
    with_reducible rfl
  rotate_left
  · simp only [Act.put, List.setIfInBounds_toArray, List.set_cons_zero, List.set_cons_succ, i64_w, i32_w]
    rfl
  refine one_ (i := 5) (N := some 17) #[true, true, true, true, true, true, false, false, false] rfl rfl (by kernel_rfl) (by decide) (fun K hK => ?_)
  refine value_ (w1 := ?_) (v := ?_) (by rfl) rfl ?_ ?_
  rotate_left 2
  · go_simp
    constructor
    · rfl
    · rfl
  refine hK.out _ _ ⟨(blk_cell (blk_alloc HQ5.out _) 0).trans rfl, (blk_cell (blk_alloc HBE.out _) 0).trans rfl, (blk_cell (blk_alloc HBE.out _) 1).trans rfl⟩ (fun hHeld => ?_)
  clear hK K
  refine norm_ (a' := ?_) ?_ ?_
  rotate_left
  · show Act.put _ (some 17) _ = _
    simp only [Act.put, List.setIfInBounds_toArray, List.set_cons_zero, List.set_cons_succ, i64_w, i32_w]
    rfl
  refine one_ (i := 6) (N := some 18) #[true, true, true, true, true, true, true, false, false] rfl rfl (by kernel_rfl) (by decide) (fun K hK => ?_)
  refine Kd.R_append_step kE (w0 := w5) (W := w5.drew) 0 (by rfl) (.tmp 15) (.tmp 17) 47 55 (.agg #[.int .i64 0, .int .i64 0]) 16 rfl Try.underlying47 infoE rfl (by decide) (by omega) (.slice A p.length c) p e [.int .i64 e.1, .int .i64 e.2] (fun k => ((F k ∧ k ≠ q) ∧ k < w.heap.size) ∨ w5.heap.size ≤ k) (fun _ => False) rfl rfl ?aM (fun _ hk => hk.elim) ?aF ?aO ?aB ?aS ?aL ?_
  (case aM => exact ⟨[.int .i64 e.1], [.int .i64 e.2], rfl, rfl, rfl⟩)
  (case aF => exact fun k hk => .inr hk)
  (case aO => exact Kd.R_drew (Kd.R_mono HR5.out (fun k hk => .inl ⟨hk.1, hk.2.2.1⟩)))
  (case aB => exact below_drew (Below.refl 0 w5))
  (case aS => exact Nat.zero_le _)
  (case aL => omega)
  intro v8 w8 ho8 hb8 hg8 hat8
  obtain ⟨A8, n8, c8, rfl⟩ : ∃ A n c, v8 = .slice A n c := by obtain ⟨A, c, e⟩ := Kd.R_slice ho8; exact ⟨A, _, c, e⟩
  have hq8 := blk_grown (w := w5.drew) HQ5.out hg8 (fun he => (HOWN.out q he.symm).1.2 rfl)
  have HQ8 := Aside0.mk hq8
  have HO8 := Aside0.mk ho8
  have HG8 := Aside0.mk hg8
  have hf8 := blk_frozen hq8 0
  have hz8 : w8.cell? ⟨q, 0, none⟩ = some (.slice A p.length c) := (blk_cell hq8 0).trans rfl
  have hbe8 := blk_grown (w := w5.drew) HBE.out hg8 (fun he => by have := (HOWN.out b4 he.symm).2.2.1; have h4 := HB4.out; omega)
  clear ho8 hb8 hg8 hat8 hq8
  refine hK.out _ _ ⟨hz8, (blk_cell hbe8 0).trans rfl, (blk_cell hbe8 1).trans rfl⟩ (fun hHeld => ?_)
  clear hK K
  refine norm_ (a' := ?_) ?_ ?_
  rotate_left
  · show Act.put _ (some 18) _ = _
    simp only [Act.put, List.setIfInBounds_toArray, List.set_cons_zero, List.set_cons_succ, i64_w, i32_w]
    rfl
  refine pure_ (i := 7) (N := some 19) (v := ?_) (a' := ?_) #[true, true, true, true, true, true, true, true, false] rfl rfl (by kernel_rfl) (fun _ _ _ h => h) (Or.inl ⟨by rfl, ?_⟩) ?_ ?_
  rotate_left
  · intro w'
    go_simp
    with_reducible rfl
  rotate_left
  · simp only [Act.put, List.setIfInBounds_toArray, List.set_cons_zero, List.set_cons_succ, i64_w, i32_w]
    rfl
  refine last_ (i := 8) (N := none) #[true, true, true, true, true, true, true, true, true] rfl rfl (by kernel_rfl) (by decide) (fun K hK => ?_)
  refine skip_ (w1 := ?_) (by rfl) rfl ?_ ?_
  rotate_left
  · go_simp
    rfl
  refine hK.out _ _ ?_
  clear hK K
  refine done_ (by kernel_rfl) ?_
  go_wp2
  refine bodyPost_end (results_none rfl _ _ _) rfl ?_
  have hn8 := (Kd.R_reads' HO8.out).1
  have hs5 := HB5.out.size
  have hqf := blk_set HQ8.out 0 (.slice A8 n8 c8)
  have hne : ∀ k, ((F k ∧ k ≠ q) ∧ k < w.heap.size) ∨ w5.heap.size ≤ k → k ≠ q := fun k hk => hk.elim (fun h => h.1.2) (fun h => by omega)
  have hr := Kd.R_bound (Kd.R_far HO8.out (p := ⟨q, 0, none⟩) (fun k hk => hne k hk) (.slice A8 n8 c8))
  have hcf : Chg F w (w8.setCell ⟨q, 0, none⟩ (.slice A8 n8 c8)) := ((((Chg.of_below HB5.out F).drew).grown HG8.out (fun k hk => .inl (HOWN.out k hk).1.1)).setCell (p := ⟨q, 0, none⟩) (.inl H3.out) _)
  refine ⟨rfl, fun k => (F k ∨ w.heap.size ≤ k) ∧ k < (w8.setCell ⟨q, 0, none⟩ (.slice A8 n8 c8)).heap.size, ⟨A8, c8, ?_, ?_, ⟨.inl H3.out, Nat.lt_of_lt_of_le hql hcf.size⟩⟩, fun k hk => hk, hcf⟩
  · rw [← hn8]
    exact hqf.trans rfl
  · rw [← hn8]
    exact Kd.R_mono hr (fun k hk => ⟨⟨hk.1.elim (fun h => .inl h.1.1) (fun h => .inr (Nat.le_trans hs5 h)), hk.2.2.1⟩, hne k hk.1⟩)
set_option maxHeartbeats 8000000 in
set_option maxRecDepth 100000 in
theorem pop_calls (w : World) (F : Nat → Prop) (q : Nat) (p : List En) (h : Pl w F q p) (m : Nat) (hm : p.length = m + 1) (hl : p.length ≤ 1000000) :
    Calls Try.prog 72 #[.pointer (some ⟨q, 0, none⟩)] w fun r w' => r = .returned (.iface 55 (.agg #[.int .i64 (p[m]'(by omega)).1, .int .i64 (p[m]'(by omega)).2])) ∧ Pl w' F q (p.take m) ∧ Chg F w w' := by
  obtain ⟨g, c, hz, hR, hFg, hgq, hbq, hFq⟩ := h.some (by omega)
  obtain ⟨hm0, hm1⟩ := pile_at hR m (by omega)
  obtain ⟨x, hx⟩ : ∃ x, x = p[m]'(by omega) := ⟨_, rfl⟩
  rw [← hx] at hm0 hm1
  rw [← hx]
  have hql := blk_lt hbq
  have HR := Aside0.mk hR
  have HB := Aside0.mk (And.intro hbq (And.intro hFq (And.intro hFg hgq)))
  have hc : m + 1 ≤ c := by have := (Kd.R_reads' hR).2.1; omega
  rw [hm] at hz
  have HM := Aside0.mk hm
  have hlm : m ≤ 1000000 := by omega
  have hza : ∀ ob, (w.alloc ob).cell? ⟨q, 0, none⟩ = some (.slice (some ⟨g, 0, none⟩) (m + 1) c) := fun ob => by rw [← HM.out]; exact (blk_cell (blk_alloc hbq ob) 0).trans rfl
  have hzf : ∀ ob, (w.alloc ob).frozen? ⟨q, 0, none⟩ = false := fun ob => blk_frozen (blk_alloc hbq ob) 0
  clear hx h hR hFg hgq hbq hFq hm
  go_enter Try.func72, Try.ntmps72
  go_wp2
  go_ret
  have htl : (p.take m).length = m := by rw [List.length_take, HM.out]; omega
  have hr := Kd.R_take HR.out (m := m) (by rw [HM.out]; omega)
  have hb2 : ((w.setCell ⟨q, 0, none⟩ (.slice (some ⟨g, 0, none⟩) m c)).alloc (.cells #[.int .i64 x.1, .int .i64 x.2] 55)).heap[q]? = some (.cells #[.slice (some ⟨g, 0, none⟩) m c] 49 (0, 0)) := blk_alloc ((blk_set HB.out.1 0 _).trans rfl) _
  refine ⟨rfl, ⟨some ⟨g, 0, none⟩, c, ?_, ?_, HB.out.2.1⟩, ((Chg.refl F w).setCell (p := ⟨q, 0, none⟩) (.inl HB.out.2.1) _).alloc _⟩
  · rw [htl]
    exact hb2
  · rw [htl]
    exact Kd.R_alloc (Kd.R_far hr (p := ⟨q, 0, none⟩) (fun k hk => hk.2) _) _
theorem Pl.swap {w w' : World} {F : Nat → Prop} {q : Nat} {p : List En} {g c : Nat} (h1 : w.heap[q]? = Option.some (.cells #[.slice (Option.some ⟨g, 0, none⟩) p.length c] 49 (0, 0))) (hq : F q) (hg : F g) (hne : g ≠ q) (i j : Nat) (hi : i < p.length) (hj : j < p.length) (hr : kE.R 55 w' 0 (fun k => F k ∧ k ≠ q) (.slice (Option.some ⟨g, 0, none⟩) p.length c) ((p.set i p[j]).set j p[i])) (hw : w.grownBy w' (Option.some g)) : Pl w' F q (swpE p i j) ∧ Chg F w w' :=
  Pl.turn h1 hq hg hne (swpE_len p i j) (by unfold swpE; rw [dif_pos hi, dif_pos hj]; exact hr) hw
set_option maxHeartbeats 8000000 in
set_option maxRecDepth 100000 in
theorem heapPush_calls (w : World) (F : Nat → Prop) (q : Nat) (p : List En) (e : En) (h : Pl w F q p) (hl : p.length ≤ 100000) :
    Calls Try.prog 20 #[pI q, .iface 55 (.agg #[.int .i64 e.1, .int .i64 e.2])] w fun r w' => r = .returned (.tuple #[]) ∧ ∃ F', Pl w' F' q (upF (p.length + 1) (p ++ [e]) p.length) ∧ Grew F F' w w' ∧ Chg F w w' := by
  have HP := Aside0.mk (push_calls w F q p e h (by omega))
  have hmp := fun w => m_push ⟨q, 0, none⟩ w
  have E1 := e_push
  have E2 := e_len
  clear h
  go_enter Try.func20, Try.ntmps20
  go_wp2_with fail
  refine HP.out.mono ?_
  rintro r w1 ⟨rfl, F1, hP1, hG1, hC1⟩
  have hll : (p ++ [e]).length = p.length + 1 := by rw [List.length_append, List.length_singleton]
  obtain ⟨g, c, hz, _⟩ := hP1.some (by omega)
  rw [hll] at hz
  have hml := m_len ⟨q, 0, none⟩ _ _ _ w1 hz
  have HU := Aside0.mk (up_calls w1 F1 q (p ++ [e]) hP1 p.length (by omega) (by omega))
  have HG1 := Aside0.mk hG1
  have HC1 := Aside0.mk hC1
  have HLC := Aside0.mk (len_calls (some ⟨g, 0, none⟩) (p.length + 1) c w1)
  rw [hll] at HU
  clear hP1 hG1 hC1 hz hll hmp HP
  go_wp2_with fail
  refine HLC.out.mono ?_
  rintro r w2 ⟨rfl, hw2⟩
  subst hw2
  clear HLC hml
  go_wp2_with fail
  refine HU.out.mono ?_
  rintro r w3 ⟨rfl, hP3, hC3⟩
  have HP3 := Aside0.mk hP3
  have HC3 := Aside0.mk hC3
  clear hP3 hC3 HU
  go_wp2
  refine bodyPost_end (results_none rfl _ _ _) rfl ?_
  exact ⟨rfl, F1, HP3.out, fun k hk => ⟨(HG1.out k hk).1, Nat.lt_of_lt_of_le (HG1.out k hk).2 HC3.out.size⟩, HC1.out.then_ HC3.out (fun k hk => (HG1.out k hk).1)⟩
/-- heap.Remove: what stays. -/
def rmF (p : List En) (i : Nat) : List En :=
  if p.length = i + 1 then p.take i
  else (if i < (downF (p.length - 1) (swpE p i (p.length - 1)) i (p.length - 1)).2 then (downF (p.length - 1) (swpE p i (p.length - 1)) i (p.length - 1)).1 else upF p.length (downF (p.length - 1) (swpE p i (p.length - 1)) i (p.length - 1)).1 i).take (p.length - 1)
set_option maxHeartbeats 8000000 in
set_option maxRecDepth 100000 in
theorem heapRemove_calls (w : World) (F : Nat → Prop) (q : Nat) (p : List En) (h : Pl w F q p) (i : Nat) (hi : i < p.length) (hl : p.length ≤ 100000) :
    Calls Try.prog 19 #[pI q, .int .i64 i] w fun r w' => (∃ v, r = .returned v) ∧ Pl w' F q (rmF p i) ∧ Chg F w w' := by
  obtain ⟨m, hm⟩ : ∃ m, p.length = m + 1 := ⟨p.length - 1, by omega⟩
  obtain ⟨g, c, hz, hR, hFg, hgq, hbq, hFq⟩ := h.some (by omega)
  have H := Aside0.mk h
  have HM := Aside0.mk hm
  have HB := Aside0.mk (And.intro hbq (And.intro hFq (And.intro hFg hgq)))
  have hml := m_len ⟨q, 0, none⟩ _ _ _ w hz
  have HLC := Aside0.mk (len_calls (some ⟨g, 0, none⟩) p.length c w)
  have HSW := Aside0.mk (fun hj => swap_calls w 0 _ g _ c p hR i m hi hj)
  have hms := m_swap ⟨q, 0, none⟩ _ _ _ w hz
  have hmp := fun w => m_pop ⟨q, 0, none⟩ w
  have E1 := e_pop
  have E2 := e_len
  have E3 := e_swap
  rw [hm] at hml HLC hms
  have hmi : ((m : Int) + 1) - 1 = m := by omega
  clear h hR hFg hgq hbq hFq hz
  by_cases he : (m : Int) = i
  · obtain rfl : m = i := by omega
    have HPO := Aside0.mk (pop_calls w F q p H.out m HM.out (by omega))
    clear hm
    go_enter Try.func19, Try.ntmps19
    go_wp2_with fail
    refine HLC.out.mono ?_
    rintro r w2 ⟨rfl, hw2⟩
    subst hw2
    clear HLC
    go_wp2_with fail
    refine HPO.out.mono ?_
    rintro r w3 ⟨rfl, hP3, hC3⟩
    have HP3 := Aside0.mk hP3
    have HC3 := Aside0.mk hC3
    clear hP3 hC3 HPO
    go_wp2
    go_ret
    refine ⟨⟨_, rfl⟩, ?_, HC3.out⟩
    unfold rmF
    rw [if_pos HM.out]
    exact HP3.out
  · have heb : ((m : Int) != i) = true := by rw [bne_iff_ne]; exact he
    have hmp1 : m < p.length := by omega
    have HX := Aside0.mk (And.intro hmp1 hi)
    have him : i < m := by omega
    have hmm : m ≤ 100000 := by omega
    clear hm
    go_enter Try.func19, Try.ntmps19
    go_wp2_with fail
    refine HLC.out.mono ?_
    rintro r w2 ⟨rfl, hw2⟩
    subst hw2
    clear HLC
    have hS2 := HSW.out hmp1
    rw [HM.out] at hS2
    have HS2 := Aside0.mk hS2
    clear hS2 HSW
    go_wp2_with fail
    refine HS2.out.mono ?_
    rintro r w3 ⟨rfl, hR3, hg3⟩
    rw [← HM.out] at hR3
    obtain ⟨hP3, hC3⟩ := Pl.swap HB.out.1 HB.out.2.1 HB.out.2.2.1 HB.out.2.2.2 i m HX.out.2 HX.out.1 hR3 hg3
    obtain ⟨p1, hp1⟩ : ∃ p1, p1 = swpE p i m := ⟨_, rfl⟩
    rw [← hp1] at hP3
    have hl1 : p1.length = m + 1 := by rw [hp1, swpE_len]; exact HM.out
    have HD := Aside0.mk (down_calls w3 F q p1 hP3 i m (by omega) (by omega) (by omega))
    have HC3 := Aside0.mk hC3
    have HP1 := Aside0.mk hp1
    have HL1 := Aside0.mk hl1
    clear hR3 hg3 hP3 hC3 HS2 hms hp1 hl1
    go_wp2_with fail
    refine HD.out.mono ?_
    rintro r w4 ⟨rfl, hP4, hC4⟩
    obtain ⟨d, hd⟩ : ∃ d, d = downF m p1 i m := ⟨_, rfl⟩
    rw [← hd] at hP4 ⊢
    have hl4 : d.1.length = m + 1 := by rw [hd, downF_len]; exact HL1.out
    have HDD := Aside0.mk hd
    have HP4 := Aside0.mk hP4
    have HC4 := Aside0.mk (HC3.out.then_ hC4 (fun k hk => .inl hk))
    have HL4 := Aside0.mk hl4
    clear hP4 hC4 hd hl4 HD
    by_cases hmv : i < d.2
    · have hdb : decide (i < d.2) = true := decide_eq_true hmv
      have HPO := Aside0.mk (pop_calls w4 F q d.1 HP4.out m HL4.out (by rw [HL4.out]; omega))
      have HMV := Aside0.mk hmv
      rw [hdb]
      clear hdb hmv
      go_wp2_with fail
      refine HPO.out.mono ?_
      rintro r w5 ⟨rfl, hP5, hC5⟩
      have HP5 := Aside0.mk hP5
      have HC5 := Aside0.mk (HC4.out.then_ hC5 (fun k hk => .inl hk))
      clear hP5 hC5 HPO
      go_wp2
      go_ret
      refine ⟨⟨_, rfl⟩, ?_, HC5.out⟩
      unfold rmF
      rw [HM.out, if_neg (by omega), show m + 1 - 1 = m from rfl, ← HP1.out, ← HDD.out, if_pos HMV.out]
      exact HP5.out
    · have hdb : decide (i < d.2) = false := decide_eq_false hmv
      have HU := Aside0.mk (up_calls w4 F q d.1 HP4.out i (by rw [HL4.out]; omega) (by rw [HL4.out]; omega))
      have HMV := Aside0.mk hmv
      rw [hdb]
      clear hdb hmv
      go_wp2_with fail
      refine HU.out.mono ?_
      rintro r w5 ⟨rfl, hP5, hC5⟩
      have hl5 : (upF d.1.length d.1 i).length = m + 1 := by rw [upF_len]; exact HL4.out
      have HL5 := Aside0.mk hl5
      have HPO := Aside0.mk (pop_calls w5 F q _ hP5 m HL5.out (by rw [HL5.out]; omega))
      have HC5 := Aside0.mk (HC4.out.then_ hC5 (fun k hk => .inl hk))
      clear hP5 hC5 HU hl5
      go_wp2_with fail
      refine HPO.out.mono ?_
      rintro r w6 ⟨rfl, hP6, hC6⟩
      have HP6 := Aside0.mk hP6
      have HC6 := Aside0.mk (HC5.out.then_ hC6 (fun k hk => .inl hk))
      clear hP6 hC6 HPO
      go_wp2
      go_ret
      refine ⟨⟨_, rfl⟩, ?_, HC6.out⟩
      have := HP6.out
      rw [HL4.out] at this
      unfold rmF
      rw [HM.out, if_neg (by omega), show m + 1 - 1 = m from rfl, ← HP1.out, ← HDD.out, if_neg HMV.out]
      exact this
end Go.Proofs.Ytebmhjiogomheaa.Hand
