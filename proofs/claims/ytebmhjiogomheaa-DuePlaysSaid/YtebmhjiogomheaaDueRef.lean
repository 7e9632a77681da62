/- The document's own Due: two rows of whole numbers in a struct; Drop, Set, First. -/
import Derived.Test.YtebmhjiogomheaaDueTimes
import Derived.Deep.CutBlock
namespace Go.Proofs.Ytebmhjiogomheaa.Hand
open Go.RowKit Go.Proofs.YtebmhjiogomheaaW.PrintWords Go.Proofs.YtebmhjiogomheaaW.PrintLast Go.Proofs.YtebmhjiogomheaaW.PrintMore Go.Proofs.Ytebmhjiogomheaa.PA
set_option linter.unusedVariables false
set_option linter.unusedSimpArgs false
abbrev kI : Kd Int := Kd.int .i64
/-- The document's Due: its two rows, in blocks G. -/
def RD (w : World) (G : Nat → Prop) (q : Nat) (l : List En) : Prop :=
  ∃ A1 c1 A2 c2, w.heap[q]? = some (.cells #[.slice A1 l.length c1, .slice A2 l.length c2] 29 (0, 0)) ∧ l.length ≤ c1 ∧ l.length ≤ c2 ∧
    Kd.F kI w (fun k => G k ∧ k ≠ q) A1 l.length (l.map Prod.fst) ∧ Kd.F kI w (fun k => G k ∧ k ≠ q) A2 l.length (l.map Prod.snd) ∧ G q
section
variable {w w' : World} {F G : Nat → Prop} {q : Nat} {l : List En}
theorem RD.chg (h : RD w G q l) (hc : Chg F w w') (hF : ∀ k, G k → ¬ F k) : RD w' G q l := by
  obtain ⟨A1, c1, A2, c2, h1, h2, h3, h4, h5, h6⟩ := h
  exact ⟨A1, c1, A2, c2, hc.blk h1 (hF q h6), h2, h3, Kd.F_step h4 (fun k hk hlt => hc.block k hlt (hF k hk.1)), Kd.F_step h5 (fun k hk hlt => hc.block k hlt (hF k hk.1)), h6⟩
theorem RD.below (h : RD w G q l) (hb : Below w.heap.size w w') : RD w' G q l := h.chg (Chg.of_below hb (fun _ => False)) (fun _ _ hk => hk)
end
theorem nil_row (w : World) (b : Nat) (hb : b ≤ w.heap.size) : kI.R 3 (w.alloc (.cells #[] 3)) b (fun k => b ≤ k) (.slice (some ⟨w.heap.size, 0, none⟩) 0 0) [] := by
  have h := own_lit w b 3 .i64 [] hb (by decide)
  exact Kd.R_of_own (xs := []) (e := 3) h (fun k hk => by
    have : w.heap.size = k := by simpa [Value.ownBlock] using hk
    omega)
theorem map_len {f : En → Int} (l : List En) : (l.map f).length = l.length := List.length_map ..
theorem F_len {A : Option Addr} {n : Nat} {w : World} {ok : Nat → Prop} {xs : List Int} (h : Kd.F kI w ok A n xs) : n = xs.length := (Kd.C_len (Kd.F_now h)).symm
/-- A cut of a row up to a place; from a place on. -/
theorem cut_ints (A : Option Addr) (n c i : Nat) (hi : i ≤ n) (hc : n ≤ c) :
    (∀ W : World, (Instr.slice 27 (.slice A n c) none (some (.int .i64 (i : Int))) none).run Try.prog W = .ok (.slice A i c) W) ∧
    ∀ (w : World) (xs : List Int), n = xs.length → Kd.C kI w A n xs → Kd.C kI w A i (xs.take i) := by
  obtain ⟨i0, hi0, hzz⟩ := Option.map_eq_some_iff.1 infoInt
  have h := cut_to (P := Try.prog) 27 3 .i64 Try.underlying27 hi0 A n c i (by omega) (by omega) hc
  rw [Int.toNat_natCast] at h
  refine ⟨h, ?_⟩
  rintro w xs rfl hC
  have := Kd.C_take hC hi
  rw [List.length_take, Nat.min_eq_left hi] at this
  exact this
theorem cut_ints2 (A : Option Addr) (n c i : Nat) (hi : i ≤ n) (hc : n ≤ c) :
    ∃ Af cf, (∀ W : World, (Instr.slice 27 (.slice A n c) (some (.int .i64 (i : Int))) none none).run Try.prog W = .ok (.slice Af (n - i) cf) W) ∧
    ∀ (w : World) (xs : List Int), n = xs.length → Kd.C kI w A n xs → Kd.C kI w Af (n - i) (xs.drop i) := by
  obtain ⟨i0, hi0, hzz⟩ := Option.map_eq_some_iff.1 infoInt
  simp only [Prod.mk.injEq] at hzz
  have h := cut_from (P := Try.prog) 27 3 .i64 Try.underlying27 hi0 1 hzz.2.1 A n c i (by omega) (by omega)
  rw [Int.toNat_natCast] at h
  refine ⟨_, _, h, ?_⟩
  rintro w xs rfl hC
  have := Kd.C_drop hC hi hc
  rw [List.length_drop] at this
  exact this
/-- A drop of an id. -/
def rdropF (l : List En) (id : Int) : List En := if idxN id l < l.length then l.eraseIdx (idxN id l) else l
theorem ints_at {w : World} {A : Option Addr} {l : List En} {f : En → Int} (h : Kd.C kI w A l.length (l.map f)) (i : Nat) (hi : i < l.length) : ∃ ad, A = some ad ∧ w.cell? (ad.add i) = some (.int .i64 (f l[i])) := by
  have h' : Kd.C kI w A (l.map f).length (l.map f) := by rw [List.length_map]; exact h
  obtain ⟨ad, e, hc⟩ := at_num h' i (by rw [List.length_map]; exact hi)
  refine ⟨ad, e, ?_⟩
  rw [getD_at _ i (by rw [List.length_map]; exact hi), List.getElem_map] at hc
  exact hc
/-- A row of one's own, read. -/
theorem row_F {w : World} {b q : Nat} {A : Option Addr} {n c : Nat} {xs : List Int} (h : kI.R 3 w b (fun k => b ≤ k) (.slice A n c) xs) {G : Nat → Prop} (hG : ∀ k, b ≤ k → k < w.heap.size → G k ∧ k ≠ q) : n = xs.length ∧ n ≤ c ∧ Kd.F kI w (fun k => G k ∧ k ≠ q) A n xs := by
  have h1 := Kd.R_reads' h
  exact ⟨h1.1, h1.2.1, Kd.R_F (Kd.R_mono (Kd.R_bound h) (fun k hk => hG k hk.2.1 hk.2.2.1))⟩
/-- Two new rows, in the struct. -/
theorem RD.made {w w0 : World} {G : Nat → Prop} {q : Nat} {l' : List En} {A1 A2 : Option Addr} {n1 c1 n2 c2 : Nat} (hq : w.heap[q]? = some (.cells #[.slice A1 n1 c1, .slice A2 n2 c2] 29 (0, 0))) (hG : G q) (hql : q < w0.heap.size)
    (h1 : kI.R 3 w w0.heap.size (fun k => w0.heap.size ≤ k) (.slice A1 n1 c1) (l'.map Prod.fst)) {b : Nat} (hb : w0.heap.size ≤ b) (h2 : kI.R 3 w b (fun k => b ≤ k) (.slice A2 n2 c2) (l'.map Prod.snd)) (hs : w0.heap.size ≤ w.heap.size) :
    RD w (fun k => (G k ∨ w0.heap.size ≤ k) ∧ k < w.heap.size) q l' ∧ Grew G (fun k => (G k ∨ w0.heap.size ≤ k) ∧ k < w.heap.size) w0 w := by
  obtain ⟨e1, e2, e3⟩ := row_F (G := fun k => (G k ∨ w0.heap.size ≤ k) ∧ k < w.heap.size) (q := q) h1 (fun k hk hk2 => ⟨⟨.inr hk, hk2⟩, by omega⟩)
  obtain ⟨f1, f2, f3⟩ := row_F (G := fun k => (G k ∨ w0.heap.size ≤ k) ∧ k < w.heap.size) (q := q) h2 (fun k hk hk2 => ⟨⟨.inr (by omega), hk2⟩, by omega⟩)
  rw [List.length_map] at e1 f1
  subst e1 f1
  exact ⟨⟨A1, c1, A2, c2, hq, e2, f2, e3, f3, .inl hG, by omega⟩, fun k hk => hk⟩
theorem erase_map (l : List En) (f : En → Int) (i : Nat) : ([] ++ (l.map f).take i) ++ (l.map f).drop (i + 1) = (l.eraseIdx i).map f := by
  rw [List.nil_append, List.eraseIdx_eq_take_drop_succ, List.map_append, List.map_take, List.map_drop]

set_option maxHeartbeats 16000000 in
set_option maxRecDepth 100000 in
theorem rdrop_calls (w : World) (G : Nat → Prop) (q : Nat) (l : List En) (h : RD w G q l) (id : Int) (hl : l.length ≤ 100000) :
    Calls Try.prog 11 #[.pointer (some ⟨q, 0, none⟩), .int .i64 id] w fun e w' => e = .returned (.bool (decide (idxN id l < l.length))) ∧ ∃ G', RD w' G' q (rdropF l id) ∧ Grew G G' w w' ∧ Chg G w w' := by
  obtain ⟨A1, c1, A2, c2, hq, hc1, hc2, hF1, hF2, hG⟩ := h
  have hz0 : w.cell? ⟨q, 0, none⟩ = some (.slice A1 l.length c1) := (blk_cell hq 0).trans rfl
  have HQ := Aside0.mk hq
  have HF0 := Aside0.mk hF1
  have HF2 := Aside0.mk hF2
  have HG := Aside0.mk hG
  have HC := Aside0.mk (And.intro hc1 hc2)
  clear hq hF1 hF2 hG hc1 hc2
  go_enter Try.func11, Try.ntmps11
  go_wp2
  go_loopw [5] (fun v5 wr => ∃ i : Nat, v5 = .int .i64 i ∧ i ≤ l.length ∧ Aside0 (i ≤ idxN id l ∧ wr = w)) (fun v5 _ => l.length - (intOf v5).toNat)
  case atStart => exact ⟨0, rfl, Nat.zero_le _, ⟨Nat.zero_le _, rfl⟩⟩
  case round =>
    obtain ⟨i, rfl, hi, HI⟩ := hrel
    obtain rfl : wr = w := HI.out.2
    by_cases hlt : i < l.length
    · obtain ⟨ad, rfl, hx⟩ := ints_at (f := Prod.fst) (Kd.F_now HF0.out) i hlt
      have HEL := Aside0.mk (show l[i].1 = l[i].1 from rfl)
      obtain ⟨x, hx0⟩ : ∃ x, x = l[i] := ⟨_, rfl⟩
      rw [← hx0] at hx
      have HX0 := Aside0.mk hx0
      clear hx0
      by_cases he : x.1 = id
      · have he' : (x.1 == id) = true := by rw [he]; exact beq_self_eq_true id
        have HIX := Aside0.mk (show idxN id l = i from idx_hit hlt HI.out.1 (by rw [← HX0.out]; exact he))
        clear he
        go_wp2
        have HZ0 := Aside0.mk hz0
        have HCT0 := Aside0.mk (cut_ints (some ad) l.length c1 i (Nat.le_of_lt hlt) HC.out.1).2
        have hct0 := (cut_ints (some ad) l.length c1 i (Nat.le_of_lt hlt) HC.out.1).1
        obtain ⟨Af0, cf0, hcf0, hcf0'⟩ := cut_ints2 (some ad) l.length c1 (i + 1) hlt HC.out.1
        have HCF0 := Aside0.mk hcf0'
        have HQ0 := HQ
        clear hcf0'
        rw [show ((i + 1 : Nat) : Int) = wrap64 ((i : Int) + 1) from by rw [Go.IntWalk.wrap64_in _ (by omega)]; omega] at hcf0
        refine start_ (n := 20) (S := fun w' => w'.cell? ⟨q, 0, none⟩ = some (.slice (some ad) l.length c1)) (ds := [19]) #[false, false, false, false, false, false, false, false, false, false, false, false, false, false, false, false, false, false, false, false] (by kernel_rfl) rfl rfl (cellLow HZ0.out (below_drew (Below.refl _ _))) (fun hHeld => ?_)
        refine pure_ (i := 0) (N := some 24) (v := ?_) (a' := ?_) #[true, false, false, false, false, false, false, false, false, false, false, false, false, false, false, false, false, false, false, false] rfl rfl (by kernel_rfl) (fun _ _ _ h => h) (Or.inl ⟨by rfl, ?_⟩) ?_ ?_
        rotate_left
        · intro w'
          go_simp
          with_reducible rfl
        rotate_left
        · simp only [Act.put, List.setIfInBounds_toArray, List.set_cons_zero, List.set_cons_succ, i64_w, i32_w]
          rfl
        refine pure_ (i := 2) (N := some 26) (v := ?_) (a' := ?_) #[true, false, true, false, false, false, false, false, false, false, false, false, false, false, false, false, false, false, false, false] rfl rfl (by kernel_rfl) (fun _ _ _ h => h) (Or.inl ⟨by rfl, ?_⟩) ?_ ?_
        rotate_left
        · intro w'
          go_simp
          with_reducible rfl
        rotate_left
        · simp only [Act.put, List.setIfInBounds_toArray, List.set_cons_zero, List.set_cons_succ, i64_w, i32_w]
          rfl
        refine pure_ (i := 3) (N := some 27) (v := ?_) (a' := ?_) #[true, false, true, true, false, false, false, false, false, false, false, false, false, false, false, false, false, false, false, false] rfl rfl (by kernel_rfl) (fun _ _ _ h => h) (Or.inl ⟨by rfl, ?_⟩) ?_ ?_
        rotate_left
        · intro w'
          go_simp
          with_reducible rfl
        rotate_left
        · simp only [Act.put, List.setIfInBounds_toArray, List.set_cons_zero, List.set_cons_succ, i64_w, i32_w]
          rfl
        refine pure_ (i := 4) (N := some 28) (v := ?_) (a' := ?_) #[true, false, true, true, true, false, false, false, false, false, false, false, false, false, false, false, false, false, false, false] rfl rfl (by kernel_rfl) (fun _ _ _ h => h) (Or.inl ⟨by rfl, ?_⟩) ?_ ?_
        rotate_left
        · intro w'
          go_simp
          with_reducible rfl
        rotate_left
        · simp only [Act.put, List.setIfInBounds_toArray, List.set_cons_zero, List.set_cons_succ, i64_w, i32_w]
          rfl
        refine pure_ (i := 6) (N := some 30) (v := ?_) (a' := ?_) #[true, false, true, true, true, false, true, false, false, false, false, false, false, false, false, false, false, false, false, false] rfl rfl (by kernel_rfl) (fun _ _ _ h => h) (Or.inl ⟨by rfl, ?_⟩) ?_ ?_
        rotate_left
        · intro w'
          go_simp
          with_reducible rfl
        rotate_left
        · simp only [Act.put, List.setIfInBounds_toArray, List.set_cons_zero, List.set_cons_succ, i64_w, i32_w]
          rfl
        refine pure_ (i := 9) (N := some 33) (v := ?_) (a' := ?_) #[true, false, true, true, true, false, true, false, false, true, false, false, false, false, false, false, false, false, false, false] rfl rfl (by kernel_rfl) (fun _ _ _ h => h) (Or.inl ⟨by rfl, ?_⟩) ?_ ?_
        rotate_left
        · intro w'
          go_simp
          with_reducible rfl
        rotate_left
        · simp only [Act.put, List.setIfInBounds_toArray, List.set_cons_zero, List.set_cons_succ, i64_w, i32_w]
          rfl
        refine pure_ (i := 10) (N := some 34) (v := ?_) (a' := ?_) #[true, false, true, true, true, false, true, false, false, true, true, false, false, false, false, false, false, false, false, false] rfl rfl (by kernel_rfl) (fun _ _ _ h => h) (Or.inl ⟨by rfl, ?_⟩) ?_ ?_
        rotate_left
        · intro w'
          go_simp
          with_reducible rfl
        rotate_left
        · simp only [Act.put, List.setIfInBounds_toArray, List.set_cons_zero, List.set_cons_succ, i64_w, i32_w]
          rfl
        refine pure_ (i := 11) (N := some 35) (v := ?_) (a' := ?_) #[true, false, true, true, true, false, true, false, false, true, true, true, false, false, false, false, false, false, false, false] rfl rfl (by kernel_rfl) (fun _ _ _ h => h) (Or.inl ⟨by rfl, ?_⟩) ?_ ?_
        rotate_left
        · intro w'
          go_simp
          with_reducible rfl
        rotate_left
        · simp only [Act.put, List.setIfInBounds_toArray, List.set_cons_zero, List.set_cons_succ, i64_w, i32_w]
          rfl
        refine pure_ (i := 13) (N := some 37) (v := ?_) (a' := ?_) #[true, false, true, true, true, false, true, false, false, true, true, true, false, true, false, false, false, false, false, false] rfl rfl (by kernel_rfl) (fun _ _ _ h => h) (Or.inl ⟨by rfl, ?_⟩) ?_ ?_
        rotate_left
        · intro w'
          go_simp
          with_reducible rfl
        rotate_left
        · simp only [Act.put, List.setIfInBounds_toArray, List.set_cons_zero, List.set_cons_succ, i64_w, i32_w]
          rfl
        refine pure_ (i := 14) (N := some 38) (v := ?_) (a' := ?_) #[true, false, true, true, true, false, true, false, false, true, true, true, false, true, true, false, false, false, false, false] rfl rfl (by kernel_rfl) (fun _ _ _ h => h) (Or.inl ⟨by rfl, ?_⟩) ?_ ?_
        rotate_left
        · intro w'
          go_simp
          with_reducible rfl
        rotate_left
        · simp only [Act.put, List.setIfInBounds_toArray, List.set_cons_zero, List.set_cons_succ, i64_w, i32_w]
          rfl
        refine take_ (i := 5) (N := some 29) (v := ?_) (a' := ?_) #[true, false, true, true, true, true, true, false, false, true, true, true, false, true, true, false, false, false, false, false] rfl rfl (by kernel_rfl) (fun _ _ _ h => h) (Or.inl ⟨by rfl, ?_⟩) hHeld ?_ ?_
        rotate_left
        · intro w' s0
          go_simp
          with_reducible rfl
        rotate_left
        · simp only [Act.put, List.setIfInBounds_toArray, List.set_cons_zero, List.set_cons_succ, i64_w, i32_w]
          rfl
        refine pure_ (i := 7) (N := some 31) (v := ?_) (a' := ?_) #[true, false, true, true, true, true, true, true, false, true, true, true, false, true, true, false, false, false, false, false] rfl rfl (by kernel_rfl) (fun _ _ _ h => h) (Or.inl ⟨by rfl, ?_⟩) ?_ ?_
        rotate_left
        · intro w'
          go_simp
          with_reducible rfl
        rotate_left
        · simp only [Act.put, List.setIfInBounds_toArray, List.set_cons_zero, List.set_cons_succ, i64_w, i32_w]
          rfl
        refine take_ (i := 12) (N := some 36) (v := ?_) (a' := ?_) #[true, false, true, true, true, true, true, true, false, true, true, true, true, true, true, false, false, false, false, false] rfl rfl (by kernel_rfl) (fun _ _ _ h => h) (Or.inl ⟨by rfl, ?_⟩) hHeld ?_ ?_
        rotate_left
        · intro w' s0
          go_simp
          with_reducible rfl
        rotate_left
        · simp only [Act.put, List.setIfInBounds_toArray, List.set_cons_zero, List.set_cons_succ, i64_w, i32_w]
          rfl
        refine pure_ (i := 15) (N := some 39) (v := ?_) (a' := ?_) #[true, false, true, true, true, true, true, true, false, true, true, true, true, true, true, true, false, false, false, false] rfl rfl (by kernel_rfl) (fun _ _ _ h => h) (Or.inl ⟨by rfl, ?_⟩) ?_ ?_
        rotate_left
        · intro w'
          go_simp
          with_reducible rfl
        rotate_left
        · simp only [Act.put, List.setIfInBounds_toArray, List.set_cons_zero, List.set_cons_succ, i64_w, i32_w]
          rfl
        refine one_ (i := 1) (N := some 25) #[true, true, true, true, true, true, true, true, false, true, true, true, true, true, true, true, false, false, false, false] rfl rfl (by kernel_rfl) (by decide) (fun K hK => ?_)
        refine value_ (w1 := ?_) (v := ?_) (by rfl) rfl ?_ ?_
        rotate_left 2
        · go_simp
          constructor
          · rfl
          · rfl
        refine hK.out _ _ (cellLow HZ0.out (below_drew (below_alloc (Below.refl wr.heap.size wr) _))) (fun hHeld => ?_)
        clear hK K
        refine norm_ (a' := ?_) ?_ ?_
        rotate_left
        · show Act.put _ (some 25) _ = _
          simp only [Act.put, List.setIfInBounds_toArray, List.set_cons_zero, List.set_cons_succ, i64_w, i32_w]
          rfl
        refine one_ (i := 8) (N := some 32) #[true, true, true, true, true, true, true, true, true, true, true, true, true, true, true, true, false, false, false, false] rfl rfl (by kernel_rfl) (by decide) (fun K hK => ?_)
        refine Kd.R_append_rows_step kI (Rr := kI.K ((wr.alloc (.cells #[] 3)).drew)) (w0 := wr) wr.heap.size (by rfl) (.tmp 25) (.tmp 31) 27 3 (.int .i64 0) 8 rfl Try.underlying27 infoInt rfl (by decide) (by omega) (.slice (some ⟨wr.heap.size, 0, none⟩) 0 0) ([] : List Int) ((l.map Prod.fst).take i) (some ad) i c1 (fun k => wr.heap.size ≤ k) (fun _ => False) rfl rfl ?aO ?aR ?aK (fun _ hk => hk.elim) ?aF ?aB ?aS ?aL ?_
        (case aO => exact Kd.R_drew (nil_row wr _ (Nat.le_refl _)))
        (case aR => exact (HCT0.out _ _ (map_len l).symm (Kd.F_now (Kd.F_below HF0.out (below_drew (below_alloc (Below.refl wr.heap.size wr) _))))))
        (case aK => exact fun x cs hx => hx)
        (case aF => exact fun k hk => Nat.le_trans (below_drew (below_alloc (Below.refl wr.heap.size wr) _)).size hk)
        (case aB => exact (below_drew (below_alloc (Below.refl wr.heap.size wr) _)))
        (case aS => exact (below_drew (below_alloc (Below.refl wr.heap.size wr) _)).size)
        (case aL => show (0 + i) * 8 ≤ _; omega)
        intro v8 w8 ho8 hb8 hg8 hat8
        have HB8 := Aside0.mk (show Below wr.heap.size wr w8 from hb8)
        obtain ⟨A8, n8, c8, rfl⟩ : ∃ A n c, v8 = .slice A n c := by obtain ⟨A, c, e⟩ := Kd.R_slice ho8; exact ⟨A, _, c, e⟩
        have HO8 := Aside0.mk ho8
        clear ho8 hb8 hg8 hat8
        refine hK.out _ _ (cellLow HZ0.out HB8.out) (fun hHeld => ?_)
        clear hK K
        refine norm_ (a' := ?_) ?_ ?_
        rotate_left
        · show Act.put _ (some 32) _ = _
          simp only [Act.put, List.setIfInBounds_toArray, List.set_cons_zero, List.set_cons_succ, i64_w, i32_w]
          rfl
        refine one_ (i := 16) (N := some 40) #[true, true, true, true, true, true, true, true, true, true, true, true, true, true, true, true, true, false, false, false] rfl rfl (by kernel_rfl) (by decide) (fun K hK => ?_)
        refine Kd.R_append_rows_step kI (Rr := kI.K w8) (w0 := wr) wr.heap.size (by rfl) (.tmp 32) (.tmp 39) 27 3 (.int .i64 0) 8 rfl Try.underlying27 infoInt rfl (by decide) (by omega) (.slice A8 n8 c8) ([] ++ (l.map Prod.fst).take i) ((l.map Prod.fst).drop (i + 1)) Af0 (l.length - (i + 1)) cf0 (fun k => wr.heap.size ≤ k) (fun _ => False) rfl rfl ?aO ?aR ?aK (fun _ hk => hk.elim) ?aF ?aB ?aS ?aL ?_
        (case aO => exact HO8.out)
        (case aR => exact (HCF0.out _ _ (map_len l).symm (Kd.F_now (Kd.F_below HF0.out HB8.out))))
        (case aK => exact fun x cs hx => hx)
        (case aF => exact fun k hk => Nat.le_trans HB8.out.size hk)
        (case aB => exact HB8.out)
        (case aS => exact HB8.out.size)
        (case aL => rw [List.nil_append, List.length_take]; omega)
        intro v9 w9 ho9 hb9 hg9 hat9
        have HB9 := Aside0.mk (show Below wr.heap.size wr w9 from hb9)
        obtain ⟨A9, n9, c9, rfl⟩ : ∃ A n c, v9 = .slice A n c := by obtain ⟨A, c, e⟩ := Kd.R_slice ho9; exact ⟨A, _, c, e⟩
        have HO9 := Aside0.mk ho9
        clear ho9 hb9 hg9 hat9
        have hq9 := blk_below HQ0.out HB9.out
        have HQN9 := Aside0.mk hq9
        have hf9 := blk_frozen hq9 0
        have hz9 : w9.cell? ⟨q, 0, none⟩ = some (.slice (some ad) l.length c1) := (blk_cell hq9 0).trans rfl
        clear hq9
        refine hK.out _ _ (hz9) (fun hHeld => ?_)
        clear hK K
        refine norm_ (a' := ?_) ?_ ?_
        rotate_left
        · show Act.put _ (some 40) _ = _
          simp only [Act.put, List.setIfInBounds_toArray, List.set_cons_zero, List.set_cons_succ, i64_w, i32_w]
          rfl
        refine pure_ (i := 17) (N := some 41) (v := ?_) (a' := ?_) #[true, true, true, true, true, true, true, true, true, true, true, true, true, true, true, true, true, true, false, false] rfl rfl (by kernel_rfl) (fun _ _ _ h => h) (Or.inl ⟨by rfl, ?_⟩) ?_ ?_
        rotate_left
        · intro w'
          go_simp
          with_reducible rfl
        rotate_left
        · simp only [Act.put, List.setIfInBounds_toArray, List.set_cons_zero, List.set_cons_succ, i64_w, i32_w]
          rfl
        refine pure_ (i := 18) (N := some 42) (v := ?_) (a' := ?_) #[true, true, true, true, true, true, true, true, true, true, true, true, true, true, true, true, true, true, true, false] rfl rfl (by kernel_rfl) (fun _ _ _ h => h) (Or.inl ⟨by rfl, ?_⟩) ?_ ?_
        rotate_left
        · intro w'
          go_simp
          with_reducible rfl
        rotate_left
        · simp only [Act.put, List.setIfInBounds_toArray, List.set_cons_zero, List.set_cons_succ, i64_w, i32_w]
          rfl
        refine last_ (i := 19) (N := none) #[true, true, true, true, true, true, true, true, true, true, true, true, true, true, true, true, true, true, true, true] rfl rfl (by kernel_rfl) (by decide) (fun K hK => ?_)
        refine skip_ (w1 := ?_) (by rfl) rfl ?_ ?_
        rotate_left
        · go_simp
          rfl
        refine hK.out _ _ ?_
        clear hK K
        refine done_ (by kernel_rfl) ?_
        obtain ⟨w10, hw10⟩ : ∃ w10, w10 = w9.setCell ⟨q, 0, none⟩ (.slice A9 n9 c9) := ⟨_, rfl⟩
        rw [← hw10]
        have hql := blk_lt HQ.out
        have HQL := Aside0.mk hql
        have HC10 := Aside0.mk (show Chg (fun k => k = q) wr w10 from by rw [hw10]; exact (Chg.of_below HB9.out (fun k => k = q)).setCell (p := ⟨q, 0, none⟩) (.inl rfl) _)
        have HQ1 := Aside0.mk (show w10.heap[q]? = some (.cells #[.slice A9 n9 c9, .slice A2 l.length c2] 29 (0, 0)) from by rw [hw10]; exact blk_set HQN9.out 0 _)
        have HO10 := Aside0.mk (show kI.R 3 w10 wr.heap.size (fun k => wr.heap.size ≤ k) (.slice A9 n9 c9) ([] ++ (l.map Prod.fst).take i ++ (l.map Prod.fst).drop (i + 1)) from by rw [hw10]; exact Kd.R_far HO9.out (fun k hk => by show k ≠ q; omega) _)
        have HF1 := Aside0.mk (show Kd.F kI w10 (fun k => G k ∧ k ≠ q) A2 l.length (l.map Prod.snd) from Kd.F_step HF2.out (fun k hk hlt => HC10.out.block k hlt hk.2))
        have hz1 : w10.cell? ⟨q, 1, none⟩ = some (.slice A2 l.length c2) := (blk_cell HQ1.out 1).trans rfl
        have HZ1 := Aside0.mk hz1
        have HCT1 := Aside0.mk (cut_ints A2 l.length c2 i (Nat.le_of_lt hlt) HC.out.2).2
        have hct1 := (cut_ints A2 l.length c2 i (Nat.le_of_lt hlt) HC.out.2).1
        obtain ⟨Af1, cf1, hcf1, hcf1'⟩ := cut_ints2 A2 l.length c2 (i + 1) hlt HC.out.2
        have HCF1 := Aside0.mk hcf1'
        clear hcf1' hct0 hcf0 hw10 hz9 hf9 hql hz0
        rw [show ((i + 1 : Nat) : Int) = wrap64 ((i : Int) + 1) from by rw [Go.IntWalk.wrap64_in _ (by omega)]; omega] at hcf1
        go_wp2
        refine start_ (n := 20) (S := fun w' => w'.cell? ⟨q, 1, none⟩ = some (.slice A2 l.length c2)) (ds := [19]) #[false, false, false, false, false, false, false, false, false, false, false, false, false, false, false, false, false, false, false, false] (by kernel_rfl) rfl rfl (cellLow HZ1.out (below_drew (Below.refl _ _))) (fun hHeld => ?_)
        refine pure_ (i := 0) (N := some 43) (v := ?_) (a' := ?_) #[true, false, false, false, false, false, false, false, false, false, false, false, false, false, false, false, false, false, false, false] rfl rfl (by kernel_rfl) (fun _ _ _ h => h) (Or.inl ⟨by rfl, ?_⟩) ?_ ?_
        rotate_left
        · intro w'
          go_simp
          with_reducible rfl
        rotate_left
        · simp only [Act.put, List.setIfInBounds_toArray, List.set_cons_zero, List.set_cons_succ, i64_w, i32_w]
          rfl
        refine pure_ (i := 2) (N := some 45) (v := ?_) (a' := ?_) #[true, false, true, false, false, false, false, false, false, false, false, false, false, false, false, false, false, false, false, false] rfl rfl (by kernel_rfl) (fun _ _ _ h => h) (Or.inl ⟨by rfl, ?_⟩) ?_ ?_
        rotate_left
        · intro w'
          go_simp
          with_reducible rfl
        rotate_left
        · simp only [Act.put, List.setIfInBounds_toArray, List.set_cons_zero, List.set_cons_succ, i64_w, i32_w]
          rfl
        refine pure_ (i := 3) (N := some 46) (v := ?_) (a' := ?_) #[true, false, true, true, false, false, false, false, false, false, false, false, false, false, false, false, false, false, false, false] rfl rfl (by kernel_rfl) (fun _ _ _ h => h) (Or.inl ⟨by rfl, ?_⟩) ?_ ?_
        rotate_left
        · intro w'
          go_simp
          with_reducible rfl
        rotate_left
        · simp only [Act.put, List.setIfInBounds_toArray, List.set_cons_zero, List.set_cons_succ, i64_w, i32_w]
          rfl
        refine pure_ (i := 4) (N := some 47) (v := ?_) (a' := ?_) #[true, false, true, true, true, false, false, false, false, false, false, false, false, false, false, false, false, false, false, false] rfl rfl (by kernel_rfl) (fun _ _ _ h => h) (Or.inl ⟨by rfl, ?_⟩) ?_ ?_
        rotate_left
        · intro w'
          go_simp
          with_reducible rfl
        rotate_left
        · simp only [Act.put, List.setIfInBounds_toArray, List.set_cons_zero, List.set_cons_succ, i64_w, i32_w]
          rfl
        refine pure_ (i := 6) (N := some 49) (v := ?_) (a' := ?_) #[true, false, true, true, true, false, true, false, false, false, false, false, false, false, false, false, false, false, false, false] rfl rfl (by kernel_rfl) (fun _ _ _ h => h) (Or.inl ⟨by rfl, ?_⟩) ?_ ?_
        rotate_left
        · intro w'
          go_simp
          with_reducible rfl
        rotate_left
        · simp only [Act.put, List.setIfInBounds_toArray, List.set_cons_zero, List.set_cons_succ, i64_w, i32_w]
          rfl
        refine pure_ (i := 9) (N := some 52) (v := ?_) (a' := ?_) #[true, false, true, true, true, false, true, false, false, true, false, false, false, false, false, false, false, false, false, false] rfl rfl (by kernel_rfl) (fun _ _ _ h => h) (Or.inl ⟨by rfl, ?_⟩) ?_ ?_
        rotate_left
        · intro w'
          go_simp
          with_reducible rfl
        rotate_left
        · simp only [Act.put, List.setIfInBounds_toArray, List.set_cons_zero, List.set_cons_succ, i64_w, i32_w]
          rfl
        refine pure_ (i := 10) (N := some 53) (v := ?_) (a' := ?_) #[true, false, true, true, true, false, true, false, false, true, true, false, false, false, false, false, false, false, false, false] rfl rfl (by kernel_rfl) (fun _ _ _ h => h) (Or.inl ⟨by rfl, ?_⟩) ?_ ?_
        rotate_left
        · intro w'
          go_simp
          with_reducible rfl
        rotate_left
        · simp only [Act.put, List.setIfInBounds_toArray, List.set_cons_zero, List.set_cons_succ, i64_w, i32_w]
          rfl
        refine pure_ (i := 11) (N := some 54) (v := ?_) (a' := ?_) #[true, false, true, true, true, false, true, false, false, true, true, true, false, false, false, false, false, false, false, false] rfl rfl (by kernel_rfl) (fun _ _ _ h => h) (Or.inl ⟨by rfl, ?_⟩) ?_ ?_
        rotate_left
        · intro w'
          go_simp
          with_reducible rfl
        rotate_left
        · simp only [Act.put, List.setIfInBounds_toArray, List.set_cons_zero, List.set_cons_succ, i64_w, i32_w]
          rfl
        refine pure_ (i := 13) (N := some 56) (v := ?_) (a' := ?_) #[true, false, true, true, true, false, true, false, false, true, true, true, false, true, false, false, false, false, false, false] rfl rfl (by kernel_rfl) (fun _ _ _ h => h) (Or.inl ⟨by rfl, ?_⟩) ?_ ?_
        rotate_left
        · intro w'
          go_simp
          with_reducible rfl
        rotate_left
        · simp only [Act.put, List.setIfInBounds_toArray, List.set_cons_zero, List.set_cons_succ, i64_w, i32_w]
          rfl
        refine pure_ (i := 14) (N := some 57) (v := ?_) (a' := ?_) #[true, false, true, true, true, false, true, false, false, true, true, true, false, true, true, false, false, false, false, false] rfl rfl (by kernel_rfl) (fun _ _ _ h => h) (Or.inl ⟨by rfl, ?_⟩) ?_ ?_
        rotate_left
        · intro w'
          go_simp
          with_reducible rfl
        rotate_left
        · simp only [Act.put, List.setIfInBounds_toArray, List.set_cons_zero, List.set_cons_succ, i64_w, i32_w]
          rfl
        refine take_ (i := 5) (N := some 48) (v := ?_) (a' := ?_) #[true, false, true, true, true, true, true, false, false, true, true, true, false, true, true, false, false, false, false, false] rfl rfl (by kernel_rfl) (fun _ _ _ h => h) (Or.inl ⟨by rfl, ?_⟩) hHeld ?_ ?_
        rotate_left
        · intro w' s0
          go_simp
          with_reducible rfl
        rotate_left
        · simp only [Act.put, List.setIfInBounds_toArray, List.set_cons_zero, List.set_cons_succ, i64_w, i32_w]
          rfl
        refine pure_ (i := 7) (N := some 50) (v := ?_) (a' := ?_) #[true, false, true, true, true, true, true, true, false, true, true, true, false, true, true, false, false, false, false, false] rfl rfl (by kernel_rfl) (fun _ _ _ h => h) (Or.inl ⟨by rfl, ?_⟩) ?_ ?_
        rotate_left
        · intro w'
          go_simp
          with_reducible rfl
        rotate_left
        · simp only [Act.put, List.setIfInBounds_toArray, List.set_cons_zero, List.set_cons_succ, i64_w, i32_w]
          rfl
        refine take_ (i := 12) (N := some 55) (v := ?_) (a' := ?_) #[true, false, true, true, true, true, true, true, false, true, true, true, true, true, true, false, false, false, false, false] rfl rfl (by kernel_rfl) (fun _ _ _ h => h) (Or.inl ⟨by rfl, ?_⟩) hHeld ?_ ?_
        rotate_left
        · intro w' s0
          go_simp
          with_reducible rfl
        rotate_left
        · simp only [Act.put, List.setIfInBounds_toArray, List.set_cons_zero, List.set_cons_succ, i64_w, i32_w]
          rfl
        refine pure_ (i := 15) (N := some 58) (v := ?_) (a' := ?_) #[true, false, true, true, true, true, true, true, false, true, true, true, true, true, true, true, false, false, false, false] rfl rfl (by kernel_rfl) (fun _ _ _ h => h) (Or.inl ⟨by rfl, ?_⟩) ?_ ?_
        rotate_left
        · intro w'
          go_simp
          with_reducible rfl
        rotate_left
        · simp only [Act.put, List.setIfInBounds_toArray, List.set_cons_zero, List.set_cons_succ, i64_w, i32_w]
          rfl
        refine one_ (i := 1) (N := some 44) #[true, true, true, true, true, true, true, true, false, true, true, true, true, true, true, true, false, false, false, false] rfl rfl (by kernel_rfl) (by decide) (fun K hK => ?_)
        refine value_ (w1 := ?_) (v := ?_) (by rfl) rfl ?_ ?_
        rotate_left 2
        · go_simp
          constructor
          · rfl
          · rfl
        refine hK.out _ _ (cellLow HZ1.out (below_drew (below_alloc (Below.refl w10.heap.size w10) _))) (fun hHeld => ?_)
        clear hK K
        refine norm_ (a' := ?_) ?_ ?_
        rotate_left
        · show Act.put _ (some 44) _ = _
          simp only [Act.put, List.setIfInBounds_toArray, List.set_cons_zero, List.set_cons_succ, i64_w, i32_w]
          rfl
        refine one_ (i := 8) (N := some 51) #[true, true, true, true, true, true, true, true, true, true, true, true, true, true, true, true, false, false, false, false] rfl rfl (by kernel_rfl) (by decide) (fun K hK => ?_)
        refine Kd.R_append_rows_step kI (Rr := kI.K ((w10.alloc (.cells #[] 3)).drew)) (w0 := w10) w10.heap.size (by rfl) (.tmp 44) (.tmp 50) 27 3 (.int .i64 0) 8 rfl Try.underlying27 infoInt rfl (by decide) (by omega) (.slice (some ⟨w10.heap.size, 0, none⟩) 0 0) ([] : List Int) ((l.map Prod.snd).take i) A2 i c2 (fun k => w10.heap.size ≤ k) (fun _ => False) rfl rfl ?aO ?aR ?aK (fun _ hk => hk.elim) ?aF ?aB ?aS ?aL ?_
        (case aO => exact Kd.R_drew (nil_row w10 _ (Nat.le_refl _)))
        (case aR => exact (HCT1.out _ _ (map_len l).symm (Kd.F_now (Kd.F_below HF1.out (below_drew (below_alloc (Below.refl w10.heap.size w10) _))))))
        (case aK => exact fun x cs hx => hx)
        (case aF => exact fun k hk => Nat.le_trans (below_drew (below_alloc (Below.refl w10.heap.size w10) _)).size hk)
        (case aB => exact (below_drew (below_alloc (Below.refl w10.heap.size w10) _)))
        (case aS => exact (below_drew (below_alloc (Below.refl w10.heap.size w10) _)).size)
        (case aL => show (0 + i) * 8 ≤ _; omega)
        intro v18 w18 ho18 hb18 hg18 hat18
        have HB18 := Aside0.mk (show Below w10.heap.size w10 w18 from hb18)
        obtain ⟨A18, n18, c18, rfl⟩ : ∃ A n c, v18 = .slice A n c := by obtain ⟨A, c, e⟩ := Kd.R_slice ho18; exact ⟨A, _, c, e⟩
        have HO18 := Aside0.mk ho18
        clear ho18 hb18 hg18 hat18
        refine hK.out _ _ (cellLow HZ1.out HB18.out) (fun hHeld => ?_)
        clear hK K
        refine norm_ (a' := ?_) ?_ ?_
        rotate_left
        · show Act.put _ (some 51) _ = _
          simp only [Act.put, List.setIfInBounds_toArray, List.set_cons_zero, List.set_cons_succ, i64_w, i32_w]
          rfl
        refine one_ (i := 16) (N := some 59) #[true, true, true, true, true, true, true, true, true, true, true, true, true, true, true, true, true, false, false, false] rfl rfl (by kernel_rfl) (by decide) (fun K hK => ?_)
        refine Kd.R_append_rows_step kI (Rr := kI.K w18) (w0 := w10) w10.heap.size (by rfl) (.tmp 51) (.tmp 58) 27 3 (.int .i64 0) 8 rfl Try.underlying27 infoInt rfl (by decide) (by omega) (.slice A18 n18 c18) ([] ++ (l.map Prod.snd).take i) ((l.map Prod.snd).drop (i + 1)) Af1 (l.length - (i + 1)) cf1 (fun k => w10.heap.size ≤ k) (fun _ => False) rfl rfl ?aO ?aR ?aK (fun _ hk => hk.elim) ?aF ?aB ?aS ?aL ?_
        (case aO => exact HO18.out)
        (case aR => exact (HCF1.out _ _ (map_len l).symm (Kd.F_now (Kd.F_below HF1.out HB18.out))))
        (case aK => exact fun x cs hx => hx)
        (case aF => exact fun k hk => Nat.le_trans HB18.out.size hk)
        (case aB => exact HB18.out)
        (case aS => exact HB18.out.size)
        (case aL => rw [List.nil_append, List.length_take]; omega)
        intro v19 w19 ho19 hb19 hg19 hat19
        have HB19 := Aside0.mk (show Below w10.heap.size w10 w19 from hb19)
        obtain ⟨A19, n19, c19, rfl⟩ : ∃ A n c, v19 = .slice A n c := by obtain ⟨A, c, e⟩ := Kd.R_slice ho19; exact ⟨A, _, c, e⟩
        have HO19 := Aside0.mk ho19
        clear ho19 hb19 hg19 hat19
        have hq19 := blk_below HQ1.out HB19.out
        have HQN19 := Aside0.mk hq19
        have hf19 := blk_frozen hq19 1
        have hz19 : w19.cell? ⟨q, 1, none⟩ = some (.slice A2 l.length c2) := (blk_cell hq19 1).trans rfl
        clear hq19
        refine hK.out _ _ (hz19) (fun hHeld => ?_)
        clear hK K
        refine norm_ (a' := ?_) ?_ ?_
        rotate_left
        · show Act.put _ (some 59) _ = _
          simp only [Act.put, List.setIfInBounds_toArray, List.set_cons_zero, List.set_cons_succ, i64_w, i32_w]
          rfl
        refine pure_ (i := 17) (N := some 60) (v := ?_) (a' := ?_) #[true, true, true, true, true, true, true, true, true, true, true, true, true, true, true, true, true, true, false, false] rfl rfl (by kernel_rfl) (fun _ _ _ h => h) (Or.inl ⟨by rfl, ?_⟩) ?_ ?_
        rotate_left
        · intro w'
          go_simp
          with_reducible rfl
        rotate_left
        · simp only [Act.put, List.setIfInBounds_toArray, List.set_cons_zero, List.set_cons_succ, i64_w, i32_w]
          rfl
        refine pure_ (i := 18) (N := some 61) (v := ?_) (a' := ?_) #[true, true, true, true, true, true, true, true, true, true, true, true, true, true, true, true, true, true, true, false] rfl rfl (by kernel_rfl) (fun _ _ _ h => h) (Or.inl ⟨by rfl, ?_⟩) ?_ ?_
        rotate_left
        · intro w'
          go_simp
          with_reducible rfl
        rotate_left
        · simp only [Act.put, List.setIfInBounds_toArray, List.set_cons_zero, List.set_cons_succ, i64_w, i32_w]
          rfl
        refine last_ (i := 19) (N := none) #[true, true, true, true, true, true, true, true, true, true, true, true, true, true, true, true, true, true, true, true] rfl rfl (by kernel_rfl) (by decide) (fun K hK => ?_)
        refine skip_ (w1 := ?_) (by rfl) rfl ?_ ?_
        rotate_left
        · go_simp
          rfl
        refine hK.out _ _ ?_
        clear hK K
        refine done_ (by kernel_rfl) ?_
        obtain ⟨w20, hw20⟩ : ∃ w20, w20 = w19.setCell ⟨q, 1, none⟩ (.slice A19 n19 c19) := ⟨_, rfl⟩
        rw [← hw20]
        have HC20 := Aside0.mk (show Chg (fun k => k = q) wr w20 from by rw [hw20]; exact (HC10.out.below HB19.out).setCell (p := ⟨q, 1, none⟩) (.inl rfl) _)
        have HQ20 := Aside0.mk (show w20.heap[q]? = some (.cells #[.slice A9 n9 c9, .slice A19 n19 c19] 29 (0, 0)) from by rw [hw20]; exact blk_set HQN19.out 1 _)
        have hs10 := HC10.out.size
        have hs20 := HC20.out.size
        have hql := HQL.out
        have HO20 := Aside0.mk (show kI.R 3 w20 w10.heap.size (fun k => w10.heap.size ≤ k) (.slice A19 n19 c19) ([] ++ (l.map Prod.snd).take i ++ (l.map Prod.snd).drop (i + 1)) from by rw [hw20]; exact Kd.R_far HO19.out (fun k hk => by show k ≠ q; omega) _)
        have HO21 := Aside0.mk (show kI.R 3 w20 wr.heap.size (fun k => wr.heap.size ≤ k) (.slice A9 n9 c9) ([] ++ (l.map Prod.fst).take i ++ (l.map Prod.fst).drop (i + 1)) from by rw [hw20]; exact Kd.R_far (Kd.R_below HO10.out HB19.out) (fun k hk => by show k ≠ q; omega) _)
        rw [erase_map] at HO20 HO21
        have HM := Aside0.mk (RD.made (G := G) HQ20.out HG.out hql HO21.out hs10 HO20.out hs20)
        clear hw20 hz19 hf19 hs10 hs20 hql hct1 hcf1 hz1 hx
        go_wp2
        go_ret
        refine ⟨by rw [decide_eq_true (show idxN id l < l.length from by rw [HIX.out]; exact hlt)]; rfl, _, ?_, HM.out.2, HC20.out.mono (fun k hk => .inl (by rw [hk]; exact HG.out))⟩
        unfold rdropF
        rw [HIX.out, if_pos hlt]
        exact HM.out.1
      · have he' : (x.1 == id) = false := beq_eq_false_iff_ne.2 he
        have HIX := Aside0.mk (show i + 1 ≤ idxN id l from idx_miss hlt HI.out.1 (by rw [← HX0.out]; exact he))
        clear he
        go_wp2
        go_roundw
        case rel => exact ⟨i + 1, by go_num, hlt, ⟨HIX.out, trivial⟩⟩
        case measure => simp [intOf]; omega
    · obtain rfl : i = l.length := by omega
      have HNO := Aside0.mk (show ¬ idxN id l < l.length from by have := HI.out.1; omega)
      go_wp2
      go_ret
      refine ⟨by rw [decide_eq_false HNO.out]; rfl, fun k => G k ∧ k < wr.heap.size, ?_, fun k hk => ⟨.inl hk.1, hk.2⟩, Chg.refl _ _⟩
      unfold rdropF
      rw [if_neg HNO.out]
      exact ⟨A1, c1, A2, c2, HQ.out, HC.out.1, HC.out.2, Kd.F_mono (Kd.F_bound HF0.out) (fun k hk => ⟨⟨hk.1.1, hk.2⟩, hk.1.2⟩), Kd.F_mono (Kd.F_bound HF2.out) (fun k hk => ⟨⟨hk.1.1, hk.2⟩, hk.1.2⟩), HG.out, blk_lt HQ.out⟩

theorem add_zero' (a : Addr) : a.add 0 = a := by simp [Addr.add]
theorem nil_rowg {w : World} {b g : Nat} (hg : w.heap.size = g) (hb : b ≤ g) : kI.R 3 (w.alloc (.cells #[] 3)) b (fun k => b ≤ k) (.slice (some ⟨g, 0, none⟩) 0 0) [] := by
  subst hg
  exact nil_row w b hb
theorem blk_newg {w : World} {g : Nat} {ob : Obj} (hg : w.heap.size = g) : (w.alloc ob).heap[g]? = some ob := by
  subst hg
  exact blk_new w ob
theorem one_C {W : World} {g e : Nat} {y : Int} (hb : W.heap[g]? = some (.cells #[.int .i64 y] e (0, 0))) : Kd.C kI W (some ⟨g, 0, none⟩) 1 [y] := by
  refine Kd.C_of_reads (d := (0 : Int)) ⟨rfl, by decide, fun _ => ⟨_, rfl, fun j hj => ?_⟩⟩
  obtain rfl : j = 0 := by omega
  rw [add_plain]
  exact (blk_cell hb 0).trans rfl
/-- Half way: a copy of the first ones, and the one alone. -/
def MidI (w5 : World) (xs : List Int) (y : Int) (v : Value) (g : Nat) (w' : World) : Prop :=
  Below w5.heap.size w5 w' ∧ kI.R 3 w' w5.heap.size (fun k => w5.heap.size ≤ k) v xs ∧ w'.heap[g]? = some (.cells #[.int .i64 y] 3 (0, 0))
/-- Where an entry belongs. -/
def posE (l : List En) (e : En) : Nat := l.findIdx (fun x => !ltE x e)
theorem pos_stop {l : List En} {e : En} {k : Nat} (hk : k < l.length) (hle : k ≤ posE l e) (h : ltE l[k] e = false) : posE l e = k := by
  rcases Nat.lt_or_ge k (posE l e) with hlt | hge
  · have := List.not_of_lt_findIdx hlt
    simp [h] at this
  · omega
theorem pos_go {l : List En} {e : En} {k : Nat} (hk : k < l.length) (hle : k ≤ posE l e) (h : ltE l[k] e = true) : k + 1 ≤ posE l e := by
  rcases Nat.lt_or_ge k (posE l e) with hlt | hge
  · exact hlt
  · have he : posE l e = k := by omega
    have hw : l.findIdx (fun x => !ltE x e) < l.length := by show posE l e < _; omega
    have := List.findIdx_getElem (w := hw)
    have e2 : l[l.findIdx (fun x => !ltE x e)] = l[k] := by congr 1
    rw [e2, h] at this
    cases this
theorem pos_end {l : List En} {e : En} (hle : l.length ≤ posE l e) : posE l e = l.length := Nat.le_antisymm List.findIdx_le_length hle
def insE (l : List En) (e : En) : List En := l.take (posE l e) ++ e :: l.drop (posE l e)
def rsetF (l : List En) (id t : Int) : List En := insE (rdropF l id) (id, t)
theorem ins_map (l : List En) (f : En → Int) (e : En) {k : Nat} (hk : k = posE l e) : (([] ++ (l.map f).take k) ++ [f e]) ++ (l.map f).drop k = (insE l e).map f := by
  unfold insE
  rw [← hk, List.nil_append, List.map_append, List.map_cons, List.map_take, List.map_drop, List.append_assoc]
  rfl
theorem rdropF_len (l : List En) (id : Int) : (rdropF l id).length ≤ l.length := by
  unfold rdropF
  split
  · exact List.length_eraseIdx_le _ _
  · exact Nat.le_refl _
set_option maxHeartbeats 16000000 in
set_option maxRecDepth 100000 in
/-- The insertion alone: the loop's way out, at k. -/
theorem rset_calls (w : World) (G : Nat → Prop) (q : Nat) (l0 : List En) (h : RD w G q l0) (id t : Int) (hl : l0.length ≤ 99999) :
    Calls Try.prog 13 #[.pointer (some ⟨q, 0, none⟩), .int .i64 id, .int .i64 t] w fun e w' => e = .returned (.tuple #[]) ∧ ∃ G', RD w' G' q (rsetF l0 id t) ∧ Grew G G' w w' ∧ Chg G w w' := by
  have HDR := Aside0.mk (rdrop_calls w G q l0 h id (by omega))
  clear h
  go_enter Try.func13, Try.ntmps13
  go_wp2_with fail
  refine HDR.out.mono ?_
  rintro e w1 ⟨rfl, G1, h1, hg1, hc1⟩
  have HG1 := Aside0.mk hg1
  have HCG := Aside0.mk hc1
  obtain ⟨l, hll⟩ : ∃ l, l = rdropF l0 id := ⟨_, rfl⟩
  have hlen : l.length ≤ 99999 := by rw [hll]; exact Nat.le_trans (rdropF_len _ _) hl
  have HLL := Aside0.mk hll
  rw [← hll] at h1
  obtain ⟨A1, c1, A2, c2, hq, hc1', hc2', hF1, hF2, hG⟩ := h1
  have hz0 : w1.cell? ⟨q, 0, none⟩ = some (.slice A1 l.length c1) := (blk_cell hq 0).trans rfl
  have hz1 : w1.cell? ⟨q, 1, none⟩ = some (.slice A2 l.length c2) := (blk_cell hq 1).trans rfl
  have HQ := Aside0.mk hq
  have HF0 := Aside0.mk hF1
  have HF2 := Aside0.mk hF2
  have HG := Aside0.mk hG
  have HC := Aside0.mk (And.intro hc1' hc2')
  clear hq hF1 hF2 hG hc1' hc2' hg1 hc1 HDR hll
  go_upto_block 0 with fail
  go_cut [6] from 10 to 52 (fun v6 wc => ∃ k : Nat, v6 = .int .i64 k ∧ k ≤ l.length ∧ Aside0 (k = posE l (id, t) ∧ wc = w1))
  case first =>
    go_wp2
    go_loopw [6] (fun v6 wr => ∃ k : Nat, v6 = .int .i64 k ∧ k ≤ l.length ∧ Aside0 (k ≤ posE l (id, t) ∧ wr = w1)) (fun v6 _ => l.length - (intOf v6).toNat)
    case atStart => exact ⟨0, rfl, Nat.zero_le _, ⟨Nat.zero_le _, rfl⟩⟩
    case round =>
      obtain ⟨k, rfl, hk, HI⟩ := hrel
      obtain rfl : wr = w1 := HI.out.2
      by_cases hlt : k < l.length
      · obtain ⟨ad1, rfl, hx⟩ := ints_at (f := Prod.fst) (Kd.F_now HF0.out) k hlt
        obtain ⟨ad2, rfl, hy⟩ := ints_at (f := Prod.snd) (Kd.F_now HF2.out) k hlt
        obtain ⟨x, hx0⟩ : ∃ x, x = l[k] := ⟨_, rfl⟩
        rw [← hx0] at hx hy
        have HX0 := Aside0.mk hx0
        clear hx0
        by_cases c1' : x.2 < t
        · have HGO := Aside0.mk (pos_go hlt HI.out.1 (by rw [← HX0.out, ltE_iff]; exact .inl c1'))
          go_wp2
          go_roundw
          case rel => exact ⟨k + 1, by go_num, hlt, ⟨HGO.out, trivial⟩⟩
          case measure => simp [intOf]; omega
        · by_cases c2' : x.2 = t
          · have c2b : (x.2 == t) = true := by rw [c2']; exact beq_self_eq_true t
            by_cases c3' : x.1 < id
            · have HGO := Aside0.mk (pos_go hlt HI.out.1 (by rw [← HX0.out, ltE_iff]; exact .inr ⟨c2', c3'⟩))
              clear c2'
              go_wp2
              go_roundw
              case rel => exact ⟨k + 1, by go_num, hlt, ⟨HGO.out, trivial⟩⟩
              case measure => simp [intOf]; omega
            · have HST := Aside0.mk (pos_stop hlt HI.out.1 (by rw [← HX0.out, ltE_no]; dsimp only; omega))
              clear c2'
              go_wp2
              go_meet
              case rel => exact ⟨k, rfl, hk, ⟨HST.out.symm, rfl⟩⟩
          · have c2b : (x.2 == t) = false := beq_eq_false_iff_ne.2 c2'
            have HST := Aside0.mk (pos_stop hlt HI.out.1 (by rw [← HX0.out, ltE_no]; dsimp only; omega))
            clear c2'
            go_wp2
            go_meet
            case rel => exact ⟨k, rfl, hk, ⟨HST.out.symm, rfl⟩⟩
      · obtain rfl : k = l.length := by omega
        have HST := Aside0.mk (pos_end HI.out.1)
        go_wp2
        go_meet
        case rel => exact ⟨_, rfl, Nat.le_refl _, ⟨HST.out.symm, rfl⟩⟩
  case rest =>
    obtain ⟨k, rfl, hk, HK0⟩ := hcut
    obtain ⟨hkp, rfl⟩ := HK0.out
    have HKP := Aside0.mk hkp
    have HZ0 := Aside0.mk hz0
    have HCT0 := Aside0.mk (cut_ints A1 l.length c1 k hk HC.out.1).2
    have hct0 := (cut_ints A1 l.length c1 k hk HC.out.1).1
    obtain ⟨Af0, cf0, hcf0, hcf0'⟩ := cut_ints2 A1 l.length c1 k hk HC.out.1
    have HCF0 := Aside0.mk hcf0'
    have HQ0 := HQ
    clear hcf0' hkp HK0 hz1
    go_wp2
    refine start_ (n := 22) (S := fun w' => w'.cell? ⟨q, 0, none⟩ = some (.slice A1 l.length c1)) (ds := [21]) #[false, false, false, false, false, false, false, false, false, false, false, false, false, false, false, false, false, false, false, false, false, false] (by kernel_rfl) rfl rfl (cellLow HZ0.out (below_drew (Below.refl _ _))) (fun hHeld => ?_)
    refine pure_ (i := 0) (N := some 52) (v := ?_) (a' := ?_) #[true, false, false, false, false, false, false, false, false, false, false, false, false, false, false, false, false, false, false, false, false, false] rfl rfl (by kernel_rfl) (fun _ _ _ h => h) (Or.inl ⟨by rfl, ?_⟩) ?_ ?_
    rotate_left
    · intro w'
      go_simp
      with_reducible rfl
    rotate_left
    · simp only [Act.put, List.setIfInBounds_toArray, List.set_cons_zero, List.set_cons_succ, i64_w, i32_w]
      rfl
    refine pure_ (i := 2) (N := some 54) (v := ?_) (a' := ?_) #[true, false, true, false, false, false, false, false, false, false, false, false, false, false, false, false, false, false, false, false, false, false] rfl rfl (by kernel_rfl) (fun _ _ _ h => h) (Or.inl ⟨by rfl, ?_⟩) ?_ ?_
    rotate_left
    · intro w'
      go_simp
      with_reducible rfl
    rotate_left
    · simp only [Act.put, List.setIfInBounds_toArray, List.set_cons_zero, List.set_cons_succ, i64_w, i32_w]
      rfl
    refine pure_ (i := 3) (N := some 55) (v := ?_) (a' := ?_) #[true, false, true, true, false, false, false, false, false, false, false, false, false, false, false, false, false, false, false, false, false, false] rfl rfl (by kernel_rfl) (fun _ _ _ h => h) (Or.inl ⟨by rfl, ?_⟩) ?_ ?_
    rotate_left
    · intro w'
      go_simp
      with_reducible rfl
    rotate_left
    · simp only [Act.put, List.setIfInBounds_toArray, List.set_cons_zero, List.set_cons_succ, i64_w, i32_w]
      rfl
    refine pure_ (i := 4) (N := some 56) (v := ?_) (a' := ?_) #[true, false, true, true, true, false, false, false, false, false, false, false, false, false, false, false, false, false, false, false, false, false] rfl rfl (by kernel_rfl) (fun _ _ _ h => h) (Or.inl ⟨by rfl, ?_⟩) ?_ ?_
    rotate_left
    · intro w'
      go_simp
      with_reducible rfl
    rotate_left
    · simp only [Act.put, List.setIfInBounds_toArray, List.set_cons_zero, List.set_cons_succ, i64_w, i32_w]
      rfl
    refine pure_ (i := 6) (N := some 58) (v := ?_) (a' := ?_) #[true, false, true, true, true, false, true, false, false, false, false, false, false, false, false, false, false, false, false, false, false, false] rfl rfl (by kernel_rfl) (fun _ _ _ h => h) (Or.inl ⟨by rfl, ?_⟩) ?_ ?_
    rotate_left
    · intro w'
      go_simp
      with_reducible rfl
    rotate_left
    · simp only [Act.put, List.setIfInBounds_toArray, List.set_cons_zero, List.set_cons_succ, i64_w, i32_w]
      rfl
    refine pure_ (i := 9) (N := some 61) (v := ?_) (a' := ?_) #[true, false, true, true, true, false, true, false, false, true, false, false, false, false, false, false, false, false, false, false, false, false] rfl rfl (by kernel_rfl) (fun _ _ _ h => h) (Or.inl ⟨by rfl, ?_⟩) ?_ ?_
    rotate_left
    · intro w'
      go_simp
      with_reducible rfl
    rotate_left
    · simp only [Act.put, List.setIfInBounds_toArray, List.set_cons_zero, List.set_cons_succ, i64_w, i32_w]
      rfl
    refine pure_ (i := 12) (N := some 64) (v := ?_) (a' := ?_) #[true, false, true, true, true, false, true, false, false, true, false, false, true, false, false, false, false, false, false, false, false, false] rfl rfl (by kernel_rfl) (fun _ _ _ h => h) (Or.inl ⟨by rfl, ?_⟩) ?_ ?_
    rotate_left
    · intro w'
      go_simp
      with_reducible rfl
    rotate_left
    · simp only [Act.put, List.setIfInBounds_toArray, List.set_cons_zero, List.set_cons_succ, i64_w, i32_w]
      rfl
    refine pure_ (i := 13) (N := some 65) (v := ?_) (a' := ?_) #[true, false, true, true, true, false, true, false, false, true, false, false, true, true, false, false, false, false, false, false, false, false] rfl rfl (by kernel_rfl) (fun _ _ _ h => h) (Or.inl ⟨by rfl, ?_⟩) ?_ ?_
    rotate_left
    · intro w'
      go_simp
      with_reducible rfl
    rotate_left
    · simp only [Act.put, List.setIfInBounds_toArray, List.set_cons_zero, List.set_cons_succ, i64_w, i32_w]
      rfl
    refine pure_ (i := 14) (N := some 66) (v := ?_) (a' := ?_) #[true, false, true, true, true, false, true, false, false, true, false, false, true, true, true, false, false, false, false, false, false, false] rfl rfl (by kernel_rfl) (fun _ _ _ h => h) (Or.inl ⟨by rfl, ?_⟩) ?_ ?_
    rotate_left
    · intro w'
      go_simp
      with_reducible rfl
    rotate_left
    · simp only [Act.put, List.setIfInBounds_toArray, List.set_cons_zero, List.set_cons_succ, i64_w, i32_w]
      rfl
    refine pure_ (i := 16) (N := some 68) (v := ?_) (a' := ?_) #[true, false, true, true, true, false, true, false, false, true, false, false, true, true, true, false, true, false, false, false, false, false] rfl rfl (by kernel_rfl) (fun _ _ _ h => h) (Or.inl ⟨by rfl, ?_⟩) ?_ ?_
    rotate_left
    · intro w'
      go_simp
      with_reducible rfl
    rotate_left
    · simp only [Act.put, List.setIfInBounds_toArray, List.set_cons_zero, List.set_cons_succ, i64_w, i32_w]
      rfl
    refine take_ (i := 5) (N := some 57) (v := ?_) (a' := ?_) #[true, false, true, true, true, true, true, false, false, true, false, false, true, true, true, false, true, false, false, false, false, false] rfl rfl (by kernel_rfl) (fun _ _ _ h => h) (Or.inl ⟨by rfl, ?_⟩) hHeld ?_ ?_
    rotate_left
    · intro w' s0
      go_simp
      with_reducible rfl
    rotate_left
    · simp only [Act.put, List.setIfInBounds_toArray, List.set_cons_zero, List.set_cons_succ, i64_w, i32_w]
      rfl
    refine pure_ (i := 7) (N := some 59) (v := ?_) (a' := ?_) #[true, false, true, true, true, true, true, true, false, true, false, false, true, true, true, false, true, false, false, false, false, false] rfl rfl (by kernel_rfl) (fun _ _ _ h => h) (Or.inl ⟨by rfl, ?_⟩) ?_ ?_
    rotate_left
    · intro w'
      go_simp
      with_reducible rfl
    rotate_left
    · simp only [Act.put, List.setIfInBounds_toArray, List.set_cons_zero, List.set_cons_succ, i64_w, i32_w]
      rfl
    refine take_ (i := 15) (N := some 67) (v := ?_) (a' := ?_) #[true, false, true, true, true, true, true, true, false, true, false, false, true, true, true, true, true, false, false, false, false, false] rfl rfl (by kernel_rfl) (fun _ _ _ h => h) (Or.inl ⟨by rfl, ?_⟩) hHeld ?_ ?_
    rotate_left
    · intro w' s0
      go_simp
      with_reducible rfl
    rotate_left
    · simp only [Act.put, List.setIfInBounds_toArray, List.set_cons_zero, List.set_cons_succ, i64_w, i32_w]
      rfl
    refine pure_ (i := 17) (N := some 69) (v := ?_) (a' := ?_) #[true, false, true, true, true, true, true, true, false, true, false, false, true, true, true, true, true, true, false, false, false, false] rfl rfl (by kernel_rfl) (fun _ _ _ h => h) (Or.inl ⟨by rfl, ?_⟩) ?_ ?_
    rotate_left
    · intro w'
      go_simp
      with_reducible rfl
    rotate_left
    · simp only [Act.put, List.setIfInBounds_toArray, List.set_cons_zero, List.set_cons_succ, i64_w, i32_w]
      rfl
    refine join_ (σ := Value × Value × Nat) 5 #[true, true, true, true, true, true, true, true, true, true, true, false, true, true, true, true, true, true, false, false, false, false] (fun s_ => [(53, s_.1), (60, s_.2.1), (62, .slice (some ⟨s_.2.2, 0, none⟩) 1 1)]) (fun s_ w' => (w'.cell? ⟨q, 0, none⟩ = some (.slice A1 l.length c1)) ∧ MidI wc (([] : List Int) ++ (l.map Prod.fst).take k) id s_.2.1 s_.2.2 w') ?_ ?_
    rotate_left
    · intro hCont
      refine two_ (i := 1) (j := 10) (Ni := some 53) (Nj := some 62) #[true, true, true, true, true, true, true, true, false, true, false, false, true, true, true, true, true, true, false, false, false, false] #[true, false, true, true, true, true, true, true, false, true, true, false, true, true, true, true, true, true, false, false, false, false] rfl rfl rfl rfl (by kernel_rfl) (by decide) (by decide) (fun K hK => ?_) (fun K hK => ?_)
      · skip
        refine value_ (w1 := ?_) (v := ?_) (by rfl) rfl ?_ ?_
        rotate_left 2
        · go_simp
          constructor
          · rfl
          · rfl
        refine hK.out _ _ (cellLow HZ0.out (below_drew (below_alloc (Below.refl wc.heap.size wc) _))) (fun hHeld => ?_)
        clear hK K
        refine norm_ (a' := ?_) ?_ ?_
        rotate_left
        · show Act.put _ (some 53) _ = _
          simp only [Act.put, List.setIfInBounds_toArray, List.set_cons_zero, List.set_cons_succ, i64_w, i32_w]
          rfl
        refine two_ (i := 8) (j := 10) (Ni := some 60) (Nj := some 62) #[true, true, true, true, true, true, true, true, true, true, false, false, true, true, true, true, true, true, false, false, false, false] #[true, true, true, true, true, true, true, true, false, true, true, false, true, true, true, true, true, true, false, false, false, false] rfl rfl rfl rfl (by kernel_rfl) (by decide) (by decide) (fun K hK => ?_) (fun K hK => ?_)
        · skip
          refine Kd.R_append_rows_step kI (Rr := kI.K (wc.alloc (.cells #[] 3)).drew) (w0 := wc) wc.heap.size (by rfl) (.tmp 53) (.tmp 59) 27 3 (.int .i64 0) 8 rfl Try.underlying27 infoInt rfl (by decide) (by omega) (.slice (some ⟨wc.heap.size, 0, none⟩) 0 0) ([] : List Int) ((l.map Prod.fst).take k) A1 k c1 (fun k => wc.heap.size ≤ k) (fun _ => False) rfl rfl ?aO ?aR ?aK (fun _ hk => hk.elim) ?aF ?aB ?aS ?aL ?_
          (case aO => exact Kd.R_below (nil_rowg (w := wc) (b := wc.heap.size) (g := wc.heap.size) (by first | rfl | exact Array.size_push .. | simp) (by omega)) (below_drew (Below.refl _ _)))
          (case aR => exact (HCT0.out _ _ (map_len l).symm (Kd.F_now (Kd.F_below HF0.out (below_drew (below_alloc (Below.refl wc.heap.size wc) _))))))
          (case aK => exact fun x cs hx => hx)
          (case aF => exact fun k hk => Nat.le_trans (below_drew (below_alloc (Below.refl wc.heap.size wc) _)).size hk)
          (case aB => exact (below_drew (below_alloc (Below.refl wc.heap.size wc) _)))
          (case aS => exact (below_drew (below_alloc (Below.refl wc.heap.size wc) _)).size)
          (case aL => show (0 + k) * 8 ≤ _; omega)
          intro v276 w276 ho276 hb276 hg276 hat276
          have HB276 := Aside0.mk (show Below wc.heap.size wc w276 from hb276)
          obtain ⟨A276, n276, c276, rfl⟩ : ∃ A n c, v276 = .slice A n c := by obtain ⟨A, c, e⟩ := Kd.R_slice ho276; exact ⟨A, _, c, e⟩
          have HO276 := Aside0.mk ho276
          have HW276 := Aside0.mk (show ∀ j, (Value.slice A276 n276 c276).ownBlock = some j → j = wc.heap.size ∨ (wc.alloc (.cells #[] 3)).drew.heap.size ≤ j from fun j hj => hat276.elim (fun h => .inl (by rw [h] at hj; exact (Option.some.inj hj).symm)) (fun h => .inr (by obtain ⟨b, hb, hle⟩ := h; rw [hb] at hj; have := Option.some.inj hj; omega)))
          clear ho276 hb276 hg276 hat276
          refine hK.out _ _ (cellLow HZ0.out HB276.out) (fun hHeld => ?_)
          clear hK K
          refine norm_ (a' := ?_) ?_ ?_
          rotate_left
          · show Act.put _ (some 60) _ = _
            simp only [Act.put, List.setIfInBounds_toArray, List.set_cons_zero, List.set_cons_succ, i64_w, i32_w]
            rfl
          refine one_ (i := 10) (N := some 62) #[true, true, true, true, true, true, true, true, true, true, true, false, true, true, true, true, true, true, false, false, false, false] rfl rfl (by kernel_rfl) (by decide) (fun K hK => ?_)
          refine value_ (w1 := ?_) (v := ?_) (by rfl) rfl ?_ ?_
          rotate_left 2
          · go_simp
            constructor
            · rfl
            · rfl
          refine hK.out _ _ (cellLow HZ0.out (below_alloc HB276.out _)) (fun hHeld => ?_)
          clear hK K
          refine norm_ (a' := ?_) ?_ ?_
          rotate_left
          · show Act.put _ (some 62) _ = _
            simp only [Act.put, List.setIfInBounds_toArray, List.set_cons_zero, List.set_cons_succ, i64_w, i32_w]
            rfl
          exact norm_ (by simp only [putAll, Act.put, List.setIfInBounds_toArray, List.set_cons_zero, List.set_cons_succ]) (hCont (.slice (some ⟨wc.heap.size, 0, none⟩) 0 0, .slice A276 n276 c276, w276.heap.size) _ ⟨hHeld, ⟨below_alloc HB276.out _, Kd.R_below HO276.out (below_alloc (Below.refl _ _) _), blk_new _ _⟩⟩)
        · skip
          refine value_ (w1 := ?_) (v := ?_) (by rfl) rfl ?_ ?_
          rotate_left 2
          · go_simp
            constructor
            · rfl
            · rfl
          refine hK.out _ _ (cellLow HZ0.out (below_drew (below_alloc (below_alloc (Below.refl wc.heap.size wc) _) _))) (fun hHeld => ?_)
          clear hK K
          refine norm_ (a' := ?_) ?_ ?_
          rotate_left
          · show Act.put _ (some 62) _ = _
            simp only [Act.put, List.setIfInBounds_toArray, List.set_cons_zero, List.set_cons_succ, i64_w, i32_w]
            rfl
          refine one_ (i := 8) (N := some 60) #[true, true, true, true, true, true, true, true, true, true, true, false, true, true, true, true, true, true, false, false, false, false] rfl rfl (by kernel_rfl) (by decide) (fun K hK => ?_)
          refine Kd.R_append_rows_step kI (Rr := kI.K ((wc.alloc (.cells #[] 3)).alloc (.cells #[.int .i64 id] 3)).drew) (w0 := wc) wc.heap.size (by rfl) (.tmp 53) (.tmp 59) 27 3 (.int .i64 0) 8 rfl Try.underlying27 infoInt rfl (by decide) (by omega) (.slice (some ⟨wc.heap.size, 0, none⟩) 0 0) ([] : List Int) ((l.map Prod.fst).take k) A1 k c1 (fun k => wc.heap.size ≤ k) (fun _ => False) rfl rfl ?aO ?aR ?aK (fun _ hk => hk.elim) ?aF ?aB ?aS ?aL ?_
          (case aO => exact Kd.R_below (nil_rowg (w := wc) (b := wc.heap.size) (g := wc.heap.size) (by first | rfl | exact Array.size_push .. | simp) (by omega)) (below_drew (below_alloc (Below.refl _ _) _)))
          (case aR => exact (HCT0.out _ _ (map_len l).symm (Kd.F_now (Kd.F_below HF0.out (below_drew (below_alloc (below_alloc (Below.refl wc.heap.size wc) _) _))))))
          (case aK => exact fun x cs hx => hx)
          (case aF => exact fun k hk => Nat.le_trans (below_drew (below_alloc (below_alloc (Below.refl wc.heap.size wc) _) _)).size hk)
          (case aB => exact (below_drew (below_alloc (below_alloc (Below.refl wc.heap.size wc) _) _)))
          (case aS => exact (below_drew (below_alloc (below_alloc (Below.refl wc.heap.size wc) _) _)).size)
          (case aL => show (0 + k) * 8 ≤ _; omega)
          intro v276 w276 ho276 hb276 hg276 hat276
          have HB276 := Aside0.mk (show Below wc.heap.size wc w276 from hb276)
          obtain ⟨A276, n276, c276, rfl⟩ : ∃ A n c, v276 = .slice A n c := by obtain ⟨A, c, e⟩ := Kd.R_slice ho276; exact ⟨A, _, c, e⟩
          have HO276 := Aside0.mk ho276
          have HW276 := Aside0.mk (show ∀ j, (Value.slice A276 n276 c276).ownBlock = some j → j = wc.heap.size ∨ ((wc.alloc (.cells #[] 3)).alloc (.cells #[.int .i64 id] 3)).drew.heap.size ≤ j from fun j hj => hat276.elim (fun h => .inl (by rw [h] at hj; exact (Option.some.inj hj).symm)) (fun h => .inr (by obtain ⟨b, hb, hle⟩ := h; rw [hb] at hj; have := Option.some.inj hj; omega)))
          have HC276 := Aside0.mk (show w276.heap[wc.heap.size + 1]? = some (.cells #[.int .i64 id] 3 (0, 0)) from blk_grown (w := ((wc.alloc (.cells #[] 3)).alloc (.cells #[.int .i64 id] 3)).drew) (blk_newg (w := (wc.alloc (.cells #[] 3))) (ob := (.cells #[.int .i64 id] 3)) (by first | rfl | exact Array.size_push .. | simp)) hg276 (fun he => by have h2 : wc.heap.size + 1 = wc.heap.size := Option.some.inj he; omega))
          clear ho276 hb276 hg276 hat276
          refine hK.out _ _ (cellLow HZ0.out HB276.out) (fun hHeld => ?_)
          clear hK K
          refine norm_ (a' := ?_) ?_ ?_
          rotate_left
          · show Act.put _ (some 60) _ = _
            simp only [Act.put, List.setIfInBounds_toArray, List.set_cons_zero, List.set_cons_succ, i64_w, i32_w]
            rfl
          exact norm_ (by simp only [putAll, Act.put, List.setIfInBounds_toArray, List.set_cons_zero, List.set_cons_succ]) (hCont (.slice (some ⟨wc.heap.size, 0, none⟩) 0 0, .slice A276 n276 c276, wc.heap.size + 1) _ ⟨hHeld, ⟨HB276.out, HO276.out, HC276.out⟩⟩)
      · skip
        refine value_ (w1 := ?_) (v := ?_) (by rfl) rfl ?_ ?_
        rotate_left 2
        · go_simp
          constructor
          · rfl
          · rfl
        refine hK.out _ _ (cellLow HZ0.out (below_drew (below_alloc (Below.refl wc.heap.size wc) _))) (fun hHeld => ?_)
        clear hK K
        refine norm_ (a' := ?_) ?_ ?_
        rotate_left
        · show Act.put _ (some 62) _ = _
          simp only [Act.put, List.setIfInBounds_toArray, List.set_cons_zero, List.set_cons_succ, i64_w, i32_w]
          rfl
        refine one_ (i := 1) (N := some 53) #[true, true, true, true, true, true, true, true, false, true, true, false, true, true, true, true, true, true, false, false, false, false] rfl rfl (by kernel_rfl) (by decide) (fun K hK => ?_)
        refine value_ (w1 := ?_) (v := ?_) (by rfl) rfl ?_ ?_
        rotate_left 2
        · go_simp
          constructor
          · rfl
          · rfl
        refine hK.out _ _ (cellLow HZ0.out (below_drew (below_alloc (below_alloc (Below.refl wc.heap.size wc) _) _))) (fun hHeld => ?_)
        clear hK K
        refine norm_ (a' := ?_) ?_ ?_
        rotate_left
        · show Act.put _ (some 53) _ = _
          simp only [Act.put, List.setIfInBounds_toArray, List.set_cons_zero, List.set_cons_succ, i64_w, i32_w]
          rfl
        refine one_ (i := 8) (N := some 60) #[true, true, true, true, true, true, true, true, true, true, true, false, true, true, true, true, true, true, false, false, false, false] rfl rfl (by kernel_rfl) (by decide) (fun K hK => ?_)
        refine Kd.R_append_rows_step kI (Rr := kI.K ((wc.alloc (.cells #[.int .i64 id] 3)).alloc (.cells #[] 3)).drew) (w0 := wc) wc.heap.size (by rfl) (.tmp 53) (.tmp 59) 27 3 (.int .i64 0) 8 rfl Try.underlying27 infoInt rfl (by decide) (by omega) (.slice (some ⟨wc.heap.size + 1, 0, none⟩) 0 0) ([] : List Int) ((l.map Prod.fst).take k) A1 k c1 (fun k => wc.heap.size ≤ k) (fun _ => False) rfl rfl ?aO ?aR ?aK (fun _ hk => hk.elim) ?aF ?aB ?aS ?aL ?_
        (case aO => exact Kd.R_below (nil_rowg (w := (wc.alloc (.cells #[.int .i64 id] 3))) (b := wc.heap.size) (g := wc.heap.size + 1) (by first | rfl | exact Array.size_push .. | simp) (by omega)) (below_drew (Below.refl _ _)))
        (case aR => exact (HCT0.out _ _ (map_len l).symm (Kd.F_now (Kd.F_below HF0.out (below_drew (below_alloc (below_alloc (Below.refl wc.heap.size wc) _) _))))))
        (case aK => exact fun x cs hx => hx)
        (case aF => exact fun k hk => Nat.le_trans (below_drew (below_alloc (below_alloc (Below.refl wc.heap.size wc) _) _)).size hk)
        (case aB => exact (below_drew (below_alloc (below_alloc (Below.refl wc.heap.size wc) _) _)))
        (case aS => exact (below_drew (below_alloc (below_alloc (Below.refl wc.heap.size wc) _) _)).size)
        (case aL => show (0 + k) * 8 ≤ _; omega)
        intro v276 w276 ho276 hb276 hg276 hat276
        have HB276 := Aside0.mk (show Below wc.heap.size wc w276 from hb276)
        obtain ⟨A276, n276, c276, rfl⟩ : ∃ A n c, v276 = .slice A n c := by obtain ⟨A, c, e⟩ := Kd.R_slice ho276; exact ⟨A, _, c, e⟩
        have HO276 := Aside0.mk ho276
        have HW276 := Aside0.mk (show ∀ j, (Value.slice A276 n276 c276).ownBlock = some j → j = wc.heap.size + 1 ∨ ((wc.alloc (.cells #[.int .i64 id] 3)).alloc (.cells #[] 3)).drew.heap.size ≤ j from fun j hj => hat276.elim (fun h => .inl (by rw [h] at hj; exact (Option.some.inj hj).symm)) (fun h => .inr (by obtain ⟨b, hb, hle⟩ := h; rw [hb] at hj; have := Option.some.inj hj; omega)))
        have HC276 := Aside0.mk (show w276.heap[wc.heap.size]? = some (.cells #[.int .i64 id] 3 (0, 0)) from blk_grown (w := ((wc.alloc (.cells #[.int .i64 id] 3)).alloc (.cells #[] 3)).drew) (blk_alloc (blk_newg (w := wc) (ob := (.cells #[.int .i64 id] 3)) (by first | rfl | exact Array.size_push .. | simp)) (.cells #[] 3)) hg276 (fun he => by have h2 : wc.heap.size = wc.heap.size + 1 := Option.some.inj he; omega))
        clear ho276 hb276 hg276 hat276
        refine hK.out _ _ (cellLow HZ0.out HB276.out) (fun hHeld => ?_)
        clear hK K
        refine norm_ (a' := ?_) ?_ ?_
        rotate_left
        · show Act.put _ (some 60) _ = _
          simp only [Act.put, List.setIfInBounds_toArray, List.set_cons_zero, List.set_cons_succ, i64_w, i32_w]
          rfl
        exact norm_ (by simp only [putAll, Act.put, List.setIfInBounds_toArray, List.set_cons_zero, List.set_cons_succ]) (hCont (.slice (some ⟨wc.heap.size + 1, 0, none⟩) 0 0, .slice A276 n276 c276, wc.heap.size) _ ⟨hHeld, ⟨HB276.out, HO276.out, HC276.out⟩⟩)
    rintro ⟨v53, v60, g27⟩ w27 ⟨hHeld, hMid⟩
    obtain ⟨Am27, nm27, cm27, rfl⟩ : ∃ A n c, v60 = .slice A n c := by obtain ⟨A, c, e⟩ := Kd.R_slice hMid.2.1; exact ⟨A, _, c, e⟩
    have HMID27 := Aside0.mk hMid
    clear hMid
    dsimp only
    refine norm_ (a' := ?_) ?_ ?_
    rotate_left
    · simp only [putAll, Act.put, List.setIfInBounds_toArray, List.set_cons_zero, List.set_cons_succ]
      rfl
    refine one_ (i := 11) (N := some 63) #[true, true, true, true, true, true, true, true, true, true, true, true, true, true, true, true, true, true, false, false, false, false] rfl rfl (by kernel_rfl) (by decide) (fun K hK => ?_)
    refine Kd.R_append_rows_step kI (Rr := kI.K w27) (w0 := wc) wc.heap.size (by rfl) (.tmp 60) (.tmp 62) 27 3 (.int .i64 0) 8 rfl Try.underlying27 infoInt rfl (by decide) (by omega) (.slice Am27 nm27 cm27) (([] : List Int) ++ (l.map Prod.fst).take k) [id] (some ⟨g27, 0, none⟩) 1 1 (fun k => wc.heap.size ≤ k) (fun _ => False) rfl rfl ?aO ?aR ?aK (fun _ hk => hk.elim) ?aF ?aB ?aS ?aL ?_
    (case aO => exact HMID27.out.2.1)
    (case aR => exact one_C HMID27.out.2.2)
    (case aK => exact fun x cs hx => hx)
    (case aF => exact fun k hk => Nat.le_trans HMID27.out.1.size hk)
    (case aB => exact HMID27.out.1)
    (case aS => exact HMID27.out.1.size)
    (case aL => rw [List.nil_append, List.length_take]; omega)
    intro v28 w28 ho28 hb28 hg28 hat28
    have HB28 := Aside0.mk (show Below wc.heap.size wc w28 from hb28)
    obtain ⟨A28, n28, c28, rfl⟩ : ∃ A n c, v28 = .slice A n c := by obtain ⟨A, c, e⟩ := Kd.R_slice ho28; exact ⟨A, _, c, e⟩
    have HO28 := Aside0.mk ho28
    clear ho28 hb28 hg28 hat28
    refine hK.out _ _ (cellLow HZ0.out HB28.out) (fun hHeld => ?_)
    clear hK K
    refine norm_ (a' := ?_) ?_ ?_
    rotate_left
    · show Act.put _ (some 63) _ = _
      simp only [Act.put, List.setIfInBounds_toArray, List.set_cons_zero, List.set_cons_succ, i64_w, i32_w]
      rfl
    refine one_ (i := 18) (N := some 70) #[true, true, true, true, true, true, true, true, true, true, true, true, true, true, true, true, true, true, true, false, false, false] rfl rfl (by kernel_rfl) (by decide) (fun K hK => ?_)
    refine Kd.R_append_rows_step kI (Rr := kI.K w28) (w0 := wc) wc.heap.size (by rfl) (.tmp 63) (.tmp 69) 27 3 (.int .i64 0) 8 rfl Try.underlying27 infoInt rfl (by decide) (by omega) (.slice A28 n28 c28) ((([] : List Int) ++ (l.map Prod.fst).take k) ++ [id]) ((l.map Prod.fst).drop k) Af0 (l.length - k) cf0 (fun k => wc.heap.size ≤ k) (fun _ => False) rfl rfl ?aO ?aR ?aK (fun _ hk => hk.elim) ?aF ?aB ?aS ?aL ?_
    (case aO => exact HO28.out)
    (case aR => exact (HCF0.out _ _ (map_len l).symm (Kd.F_now (Kd.F_below HF0.out HB28.out))))
    (case aK => exact fun x cs hx => hx)
    (case aF => exact fun k hk => Nat.le_trans HB28.out.size hk)
    (case aB => exact HB28.out)
    (case aS => exact HB28.out.size)
    (case aL => rw [List.nil_append, List.length_append, List.length_take, List.length_singleton]; omega)
    intro v29 w29 ho29 hb29 hg29 hat29
    have HB29 := Aside0.mk (show Below wc.heap.size wc w29 from hb29)
    obtain ⟨A29, n29, c29, rfl⟩ : ∃ A n c, v29 = .slice A n c := by obtain ⟨A, c, e⟩ := Kd.R_slice ho29; exact ⟨A, _, c, e⟩
    have HO29 := Aside0.mk ho29
    clear ho29 hb29 hg29 hat29
    have hq29 := blk_below HQ0.out HB29.out
    have HQN29 := Aside0.mk hq29
    have hf29 := blk_frozen hq29 0
    have hz29 : w29.cell? ⟨q, 0, none⟩ = some (.slice A1 l.length c1) := (blk_cell hq29 0).trans rfl
    clear hq29
    refine hK.out _ _ (hz29) (fun hHeld => ?_)
    clear hK K
    refine norm_ (a' := ?_) ?_ ?_
    rotate_left
    · show Act.put _ (some 70) _ = _
      simp only [Act.put, List.setIfInBounds_toArray, List.set_cons_zero, List.set_cons_succ, i64_w, i32_w]
      rfl
    refine pure_ (i := 19) (N := some 71) (v := ?_) (a' := ?_) #[true, true, true, true, true, true, true, true, true, true, true, true, true, true, true, true, true, true, true, true, false, false] rfl rfl (by kernel_rfl) (fun _ _ _ h => h) (Or.inl ⟨by rfl, ?_⟩) ?_ ?_
    rotate_left
    · intro w'
      go_simp
      with_reducible rfl
    rotate_left
    · simp only [Act.put, List.setIfInBounds_toArray, List.set_cons_zero, List.set_cons_succ, i64_w, i32_w]
      rfl
    refine pure_ (i := 20) (N := some 72) (v := ?_) (a' := ?_) #[true, true, true, true, true, true, true, true, true, true, true, true, true, true, true, true, true, true, true, true, true, false] rfl rfl (by kernel_rfl) (fun _ _ _ h => h) (Or.inl ⟨by rfl, ?_⟩) ?_ ?_
    rotate_left
    · intro w'
      go_simp
      with_reducible rfl
    rotate_left
    · simp only [Act.put, List.setIfInBounds_toArray, List.set_cons_zero, List.set_cons_succ, i64_w, i32_w]
      rfl
    refine last_ (i := 21) (N := none) #[true, true, true, true, true, true, true, true, true, true, true, true, true, true, true, true, true, true, true, true, true, true] rfl rfl (by kernel_rfl) (by decide) (fun K hK => ?_)
    refine skip_ (w1 := ?_) (by rfl) rfl ?_ ?_
    rotate_left
    · go_simp
      rfl
    refine hK.out _ _ ?_
    clear hK K
    refine done_ (by kernel_rfl) ?_
    obtain ⟨w40, hw40⟩ : ∃ w, w = w29.setCell ⟨q, 0, none⟩ (.slice A29 n29 c29) := ⟨_, rfl⟩
    rw [← hw40]
    have hql := blk_lt HQ.out
    have HQL := Aside0.mk hql
    have HC40 := Aside0.mk (show Chg (fun k => k = q) wc w40 from by rw [hw40]; exact (Chg.of_below HB29.out (fun k => k = q)).setCell (p := ⟨q, 0, none⟩) (.inl rfl) _)
    have HQ1 := Aside0.mk (show w40.heap[q]? = some (.cells #[.slice A29 n29 c29, .slice A2 l.length c2] 29 (0, 0)) from by rw [hw40]; exact blk_set HQN29.out 0 _)
    have HO40 := Aside0.mk (show kI.R 3 w40 wc.heap.size (fun k => wc.heap.size ≤ k) (.slice A29 n29 c29) (([] ++ (l.map Prod.fst).take k ++ [id]) ++ (l.map Prod.fst).drop k) from by rw [hw40]; exact Kd.R_far HO29.out (fun k hk => by show k ≠ q; omega) _)
    have HF1 := Aside0.mk (show Kd.F kI w40 (fun k => G1 k ∧ k ≠ q) A2 l.length (l.map Prod.snd) from Kd.F_step HF2.out (fun k hk hlt => HC40.out.block k hlt hk.2))
    have hz1 : w40.cell? ⟨q, 1, none⟩ = some (.slice A2 l.length c2) := (blk_cell HQ1.out 1).trans rfl
    have HZ1 := Aside0.mk hz1
    have HCT1 := Aside0.mk (cut_ints A2 l.length c2 k hk HC.out.2).2
    have hct1 := (cut_ints A2 l.length c2 k hk HC.out.2).1
    obtain ⟨Af1, cf1, hcf1, hcf1'⟩ := cut_ints2 A2 l.length c2 k hk HC.out.2
    have HCF1 := Aside0.mk hcf1'
    clear hcf1' hct0 hcf0 hw40 hz29 hf29 hql hz0
    go_wp2
    refine start_ (n := 22) (S := fun w' => w'.cell? ⟨q, 1, none⟩ = some (.slice A2 l.length c2)) (ds := [21]) #[false, false, false, false, false, false, false, false, false, false, false, false, false, false, false, false, false, false, false, false, false, false] (by kernel_rfl) rfl rfl (cellLow HZ1.out (below_drew (Below.refl _ _))) (fun hHeld => ?_)
    refine pure_ (i := 0) (N := some 73) (v := ?_) (a' := ?_) #[true, false, false, false, false, false, false, false, false, false, false, false, false, false, false, false, false, false, false, false, false, false] rfl rfl (by kernel_rfl) (fun _ _ _ h => h) (Or.inl ⟨by rfl, ?_⟩) ?_ ?_
    rotate_left
    · intro w'
      go_simp
      with_reducible rfl
    rotate_left
    · simp only [Act.put, List.setIfInBounds_toArray, List.set_cons_zero, List.set_cons_succ, i64_w, i32_w]
      rfl
    refine pure_ (i := 2) (N := some 75) (v := ?_) (a' := ?_) #[true, false, true, false, false, false, false, false, false, false, false, false, false, false, false, false, false, false, false, false, false, false] rfl rfl (by kernel_rfl) (fun _ _ _ h => h) (Or.inl ⟨by rfl, ?_⟩) ?_ ?_
    rotate_left
    · intro w'
      go_simp
      with_reducible rfl
    rotate_left
    · simp only [Act.put, List.setIfInBounds_toArray, List.set_cons_zero, List.set_cons_succ, i64_w, i32_w]
      rfl
    refine pure_ (i := 3) (N := some 76) (v := ?_) (a' := ?_) #[true, false, true, true, false, false, false, false, false, false, false, false, false, false, false, false, false, false, false, false, false, false] rfl rfl (by kernel_rfl) (fun _ _ _ h => h) (Or.inl ⟨by rfl, ?_⟩) ?_ ?_
    rotate_left
    · intro w'
      go_simp
      with_reducible rfl
    rotate_left
    · simp only [Act.put, List.setIfInBounds_toArray, List.set_cons_zero, List.set_cons_succ, i64_w, i32_w]
      rfl
    refine pure_ (i := 4) (N := some 77) (v := ?_) (a' := ?_) #[true, false, true, true, true, false, false, false, false, false, false, false, false, false, false, false, false, false, false, false, false, false] rfl rfl (by kernel_rfl) (fun _ _ _ h => h) (Or.inl ⟨by rfl, ?_⟩) ?_ ?_
    rotate_left
    · intro w'
      go_simp
      with_reducible rfl
    rotate_left
    · simp only [Act.put, List.setIfInBounds_toArray, List.set_cons_zero, List.set_cons_succ, i64_w, i32_w]
      rfl
    refine pure_ (i := 6) (N := some 79) (v := ?_) (a' := ?_) #[true, false, true, true, true, false, true, false, false, false, false, false, false, false, false, false, false, false, false, false, false, false] rfl rfl (by kernel_rfl) (fun _ _ _ h => h) (Or.inl ⟨by rfl, ?_⟩) ?_ ?_
    rotate_left
    · intro w'
      go_simp
      with_reducible rfl
    rotate_left
    · simp only [Act.put, List.setIfInBounds_toArray, List.set_cons_zero, List.set_cons_succ, i64_w, i32_w]
      rfl
    refine pure_ (i := 9) (N := some 82) (v := ?_) (a' := ?_) #[true, false, true, true, true, false, true, false, false, true, false, false, false, false, false, false, false, false, false, false, false, false] rfl rfl (by kernel_rfl) (fun _ _ _ h => h) (Or.inl ⟨by rfl, ?_⟩) ?_ ?_
    rotate_left
    · intro w'
      go_simp
      with_reducible rfl
    rotate_left
    · simp only [Act.put, List.setIfInBounds_toArray, List.set_cons_zero, List.set_cons_succ, i64_w, i32_w]
      rfl
    refine pure_ (i := 12) (N := some 85) (v := ?_) (a' := ?_) #[true, false, true, true, true, false, true, false, false, true, false, false, true, false, false, false, false, false, false, false, false, false] rfl rfl (by kernel_rfl) (fun _ _ _ h => h) (Or.inl ⟨by rfl, ?_⟩) ?_ ?_
    rotate_left
    · intro w'
      go_simp
      with_reducible rfl
    rotate_left
    · simp only [Act.put, List.setIfInBounds_toArray, List.set_cons_zero, List.set_cons_succ, i64_w, i32_w]
      rfl
    refine pure_ (i := 13) (N := some 86) (v := ?_) (a' := ?_) #[true, false, true, true, true, false, true, false, false, true, false, false, true, true, false, false, false, false, false, false, false, false] rfl rfl (by kernel_rfl) (fun _ _ _ h => h) (Or.inl ⟨by rfl, ?_⟩) ?_ ?_
    rotate_left
    · intro w'
      go_simp
      with_reducible rfl
    rotate_left
    · simp only [Act.put, List.setIfInBounds_toArray, List.set_cons_zero, List.set_cons_succ, i64_w, i32_w]
      rfl
    refine pure_ (i := 14) (N := some 87) (v := ?_) (a' := ?_) #[true, false, true, true, true, false, true, false, false, true, false, false, true, true, true, false, false, false, false, false, false, false] rfl rfl (by kernel_rfl) (fun _ _ _ h => h) (Or.inl ⟨by rfl, ?_⟩) ?_ ?_
    rotate_left
    · intro w'
      go_simp
      with_reducible rfl
    rotate_left
    · simp only [Act.put, List.setIfInBounds_toArray, List.set_cons_zero, List.set_cons_succ, i64_w, i32_w]
      rfl
    refine pure_ (i := 16) (N := some 89) (v := ?_) (a' := ?_) #[true, false, true, true, true, false, true, false, false, true, false, false, true, true, true, false, true, false, false, false, false, false] rfl rfl (by kernel_rfl) (fun _ _ _ h => h) (Or.inl ⟨by rfl, ?_⟩) ?_ ?_
    rotate_left
    · intro w'
      go_simp
      with_reducible rfl
    rotate_left
    · simp only [Act.put, List.setIfInBounds_toArray, List.set_cons_zero, List.set_cons_succ, i64_w, i32_w]
      rfl
    refine take_ (i := 5) (N := some 78) (v := ?_) (a' := ?_) #[true, false, true, true, true, true, true, false, false, true, false, false, true, true, true, false, true, false, false, false, false, false] rfl rfl (by kernel_rfl) (fun _ _ _ h => h) (Or.inl ⟨by rfl, ?_⟩) hHeld ?_ ?_
    rotate_left
    · intro w' s0
      go_simp
      with_reducible rfl
    rotate_left
    · simp only [Act.put, List.setIfInBounds_toArray, List.set_cons_zero, List.set_cons_succ, i64_w, i32_w]
      rfl
    refine pure_ (i := 7) (N := some 80) (v := ?_) (a' := ?_) #[true, false, true, true, true, true, true, true, false, true, false, false, true, true, true, false, true, false, false, false, false, false] rfl rfl (by kernel_rfl) (fun _ _ _ h => h) (Or.inl ⟨by rfl, ?_⟩) ?_ ?_
    rotate_left
    · intro w'
      go_simp
      with_reducible rfl
    rotate_left
    · simp only [Act.put, List.setIfInBounds_toArray, List.set_cons_zero, List.set_cons_succ, i64_w, i32_w]
      rfl
    refine take_ (i := 15) (N := some 88) (v := ?_) (a' := ?_) #[true, false, true, true, true, true, true, true, false, true, false, false, true, true, true, true, true, false, false, false, false, false] rfl rfl (by kernel_rfl) (fun _ _ _ h => h) (Or.inl ⟨by rfl, ?_⟩) hHeld ?_ ?_
    rotate_left
    · intro w' s0
      go_simp
      with_reducible rfl
    rotate_left
    · simp only [Act.put, List.setIfInBounds_toArray, List.set_cons_zero, List.set_cons_succ, i64_w, i32_w]
      rfl
    refine pure_ (i := 17) (N := some 90) (v := ?_) (a' := ?_) #[true, false, true, true, true, true, true, true, false, true, false, false, true, true, true, true, true, true, false, false, false, false] rfl rfl (by kernel_rfl) (fun _ _ _ h => h) (Or.inl ⟨by rfl, ?_⟩) ?_ ?_
    rotate_left
    · intro w'
      go_simp
      with_reducible rfl
    rotate_left
    · simp only [Act.put, List.setIfInBounds_toArray, List.set_cons_zero, List.set_cons_succ, i64_w, i32_w]
      rfl
    refine join_ (σ := Value × Value × Nat) 5 #[true, true, true, true, true, true, true, true, true, true, true, false, true, true, true, true, true, true, false, false, false, false] (fun s_ => [(74, s_.1), (81, s_.2.1), (83, .slice (some ⟨s_.2.2, 0, none⟩) 1 1)]) (fun s_ w' => (w'.cell? ⟨q, 1, none⟩ = some (.slice A2 l.length c2)) ∧ MidI w40 (([] : List Int) ++ (l.map Prod.snd).take k) t s_.2.1 s_.2.2 w') ?_ ?_
    rotate_left
    · intro hCont
      refine two_ (i := 1) (j := 10) (Ni := some 74) (Nj := some 83) #[true, true, true, true, true, true, true, true, false, true, false, false, true, true, true, true, true, true, false, false, false, false] #[true, false, true, true, true, true, true, true, false, true, true, false, true, true, true, true, true, true, false, false, false, false] rfl rfl rfl rfl (by kernel_rfl) (by decide) (by decide) (fun K hK => ?_) (fun K hK => ?_)
      · skip
        refine value_ (w1 := ?_) (v := ?_) (by rfl) rfl ?_ ?_
        rotate_left 2
        · go_simp
          constructor
          · rfl
          · rfl
        refine hK.out _ _ (cellLow HZ1.out (below_drew (below_alloc (Below.refl w40.heap.size w40) _))) (fun hHeld => ?_)
        clear hK K
        refine norm_ (a' := ?_) ?_ ?_
        rotate_left
        · show Act.put _ (some 74) _ = _
          simp only [Act.put, List.setIfInBounds_toArray, List.set_cons_zero, List.set_cons_succ, i64_w, i32_w]
          rfl
        refine two_ (i := 8) (j := 10) (Ni := some 81) (Nj := some 83) #[true, true, true, true, true, true, true, true, true, true, false, false, true, true, true, true, true, true, false, false, false, false] #[true, true, true, true, true, true, true, true, false, true, true, false, true, true, true, true, true, true, false, false, false, false] rfl rfl rfl rfl (by kernel_rfl) (by decide) (by decide) (fun K hK => ?_) (fun K hK => ?_)
        · skip
          refine Kd.R_append_rows_step kI (Rr := kI.K (w40.alloc (.cells #[] 3)).drew) (w0 := w40) w40.heap.size (by rfl) (.tmp 74) (.tmp 80) 27 3 (.int .i64 0) 8 rfl Try.underlying27 infoInt rfl (by decide) (by omega) (.slice (some ⟨w40.heap.size, 0, none⟩) 0 0) ([] : List Int) ((l.map Prod.snd).take k) A2 k c2 (fun k => w40.heap.size ≤ k) (fun _ => False) rfl rfl ?aO ?aR ?aK (fun _ hk => hk.elim) ?aF ?aB ?aS ?aL ?_
          (case aO => exact Kd.R_below (nil_rowg (w := w40) (b := w40.heap.size) (g := w40.heap.size) (by first | rfl | exact Array.size_push .. | simp) (by omega)) (below_drew (Below.refl _ _)))
          (case aR => exact (HCT1.out _ _ (map_len l).symm (Kd.F_now (Kd.F_below HF1.out (below_drew (below_alloc (Below.refl w40.heap.size w40) _))))))
          (case aK => exact fun x cs hx => hx)
          (case aF => exact fun k hk => Nat.le_trans (below_drew (below_alloc (Below.refl w40.heap.size w40) _)).size hk)
          (case aB => exact (below_drew (below_alloc (Below.refl w40.heap.size w40) _)))
          (case aS => exact (below_drew (below_alloc (Below.refl w40.heap.size w40) _)).size)
          (case aL => show (0 + k) * 8 ≤ _; omega)
          intro v476 w476 ho476 hb476 hg476 hat476
          have HB476 := Aside0.mk (show Below w40.heap.size w40 w476 from hb476)
          obtain ⟨A476, n476, c476, rfl⟩ : ∃ A n c, v476 = .slice A n c := by obtain ⟨A, c, e⟩ := Kd.R_slice ho476; exact ⟨A, _, c, e⟩
          have HO476 := Aside0.mk ho476
          have HW476 := Aside0.mk (show ∀ j, (Value.slice A476 n476 c476).ownBlock = some j → j = w40.heap.size ∨ (w40.alloc (.cells #[] 3)).drew.heap.size ≤ j from fun j hj => hat476.elim (fun h => .inl (by rw [h] at hj; exact (Option.some.inj hj).symm)) (fun h => .inr (by obtain ⟨b, hb, hle⟩ := h; rw [hb] at hj; have := Option.some.inj hj; omega)))
          clear ho476 hb476 hg476 hat476
          refine hK.out _ _ (cellLow HZ1.out HB476.out) (fun hHeld => ?_)
          clear hK K
          refine norm_ (a' := ?_) ?_ ?_
          rotate_left
          · show Act.put _ (some 81) _ = _
            simp only [Act.put, List.setIfInBounds_toArray, List.set_cons_zero, List.set_cons_succ, i64_w, i32_w]
            rfl
          refine one_ (i := 10) (N := some 83) #[true, true, true, true, true, true, true, true, true, true, true, false, true, true, true, true, true, true, false, false, false, false] rfl rfl (by kernel_rfl) (by decide) (fun K hK => ?_)
          refine value_ (w1 := ?_) (v := ?_) (by rfl) rfl ?_ ?_
          rotate_left 2
          · go_simp
            constructor
            · rfl
            · rfl
          refine hK.out _ _ (cellLow HZ1.out (below_alloc HB476.out _)) (fun hHeld => ?_)
          clear hK K
          refine norm_ (a' := ?_) ?_ ?_
          rotate_left
          · show Act.put _ (some 83) _ = _
            simp only [Act.put, List.setIfInBounds_toArray, List.set_cons_zero, List.set_cons_succ, i64_w, i32_w]
            rfl
          exact norm_ (by simp only [putAll, Act.put, List.setIfInBounds_toArray, List.set_cons_zero, List.set_cons_succ]) (hCont (.slice (some ⟨w40.heap.size, 0, none⟩) 0 0, .slice A476 n476 c476, w476.heap.size) _ ⟨hHeld, ⟨below_alloc HB476.out _, Kd.R_below HO476.out (below_alloc (Below.refl _ _) _), blk_new _ _⟩⟩)
        · skip
          refine value_ (w1 := ?_) (v := ?_) (by rfl) rfl ?_ ?_
          rotate_left 2
          · go_simp
            constructor
            · rfl
            · rfl
          refine hK.out _ _ (cellLow HZ1.out (below_drew (below_alloc (below_alloc (Below.refl w40.heap.size w40) _) _))) (fun hHeld => ?_)
          clear hK K
          refine norm_ (a' := ?_) ?_ ?_
          rotate_left
          · show Act.put _ (some 83) _ = _
            simp only [Act.put, List.setIfInBounds_toArray, List.set_cons_zero, List.set_cons_succ, i64_w, i32_w]
            rfl
          refine one_ (i := 8) (N := some 81) #[true, true, true, true, true, true, true, true, true, true, true, false, true, true, true, true, true, true, false, false, false, false] rfl rfl (by kernel_rfl) (by decide) (fun K hK => ?_)
          refine Kd.R_append_rows_step kI (Rr := kI.K ((w40.alloc (.cells #[] 3)).alloc (.cells #[.int .i64 t] 3)).drew) (w0 := w40) w40.heap.size (by rfl) (.tmp 74) (.tmp 80) 27 3 (.int .i64 0) 8 rfl Try.underlying27 infoInt rfl (by decide) (by omega) (.slice (some ⟨w40.heap.size, 0, none⟩) 0 0) ([] : List Int) ((l.map Prod.snd).take k) A2 k c2 (fun k => w40.heap.size ≤ k) (fun _ => False) rfl rfl ?aO ?aR ?aK (fun _ hk => hk.elim) ?aF ?aB ?aS ?aL ?_
          (case aO => exact Kd.R_below (nil_rowg (w := w40) (b := w40.heap.size) (g := w40.heap.size) (by first | rfl | exact Array.size_push .. | simp) (by omega)) (below_drew (below_alloc (Below.refl _ _) _)))
          (case aR => exact (HCT1.out _ _ (map_len l).symm (Kd.F_now (Kd.F_below HF1.out (below_drew (below_alloc (below_alloc (Below.refl w40.heap.size w40) _) _))))))
          (case aK => exact fun x cs hx => hx)
          (case aF => exact fun k hk => Nat.le_trans (below_drew (below_alloc (below_alloc (Below.refl w40.heap.size w40) _) _)).size hk)
          (case aB => exact (below_drew (below_alloc (below_alloc (Below.refl w40.heap.size w40) _) _)))
          (case aS => exact (below_drew (below_alloc (below_alloc (Below.refl w40.heap.size w40) _) _)).size)
          (case aL => show (0 + k) * 8 ≤ _; omega)
          intro v476 w476 ho476 hb476 hg476 hat476
          have HB476 := Aside0.mk (show Below w40.heap.size w40 w476 from hb476)
          obtain ⟨A476, n476, c476, rfl⟩ : ∃ A n c, v476 = .slice A n c := by obtain ⟨A, c, e⟩ := Kd.R_slice ho476; exact ⟨A, _, c, e⟩
          have HO476 := Aside0.mk ho476
          have HW476 := Aside0.mk (show ∀ j, (Value.slice A476 n476 c476).ownBlock = some j → j = w40.heap.size ∨ ((w40.alloc (.cells #[] 3)).alloc (.cells #[.int .i64 t] 3)).drew.heap.size ≤ j from fun j hj => hat476.elim (fun h => .inl (by rw [h] at hj; exact (Option.some.inj hj).symm)) (fun h => .inr (by obtain ⟨b, hb, hle⟩ := h; rw [hb] at hj; have := Option.some.inj hj; omega)))
          have HC476 := Aside0.mk (show w476.heap[w40.heap.size + 1]? = some (.cells #[.int .i64 t] 3 (0, 0)) from blk_grown (w := ((w40.alloc (.cells #[] 3)).alloc (.cells #[.int .i64 t] 3)).drew) (blk_newg (w := (w40.alloc (.cells #[] 3))) (ob := (.cells #[.int .i64 t] 3)) (by first | rfl | exact Array.size_push .. | simp)) hg476 (fun he => by have h2 : w40.heap.size + 1 = w40.heap.size := Option.some.inj he; omega))
          clear ho476 hb476 hg476 hat476
          refine hK.out _ _ (cellLow HZ1.out HB476.out) (fun hHeld => ?_)
          clear hK K
          refine norm_ (a' := ?_) ?_ ?_
          rotate_left
          · show Act.put _ (some 81) _ = _
            simp only [Act.put, List.setIfInBounds_toArray, List.set_cons_zero, List.set_cons_succ, i64_w, i32_w]
            rfl
          exact norm_ (by simp only [putAll, Act.put, List.setIfInBounds_toArray, List.set_cons_zero, List.set_cons_succ]) (hCont (.slice (some ⟨w40.heap.size, 0, none⟩) 0 0, .slice A476 n476 c476, w40.heap.size + 1) _ ⟨hHeld, ⟨HB476.out, HO476.out, HC476.out⟩⟩)
      · skip
        refine value_ (w1 := ?_) (v := ?_) (by rfl) rfl ?_ ?_
        rotate_left 2
        · go_simp
          constructor
          · rfl
          · rfl
        refine hK.out _ _ (cellLow HZ1.out (below_drew (below_alloc (Below.refl w40.heap.size w40) _))) (fun hHeld => ?_)
        clear hK K
        refine norm_ (a' := ?_) ?_ ?_
        rotate_left
        · show Act.put _ (some 83) _ = _
          simp only [Act.put, List.setIfInBounds_toArray, List.set_cons_zero, List.set_cons_succ, i64_w, i32_w]
          rfl
        refine one_ (i := 1) (N := some 74) #[true, true, true, true, true, true, true, true, false, true, true, false, true, true, true, true, true, true, false, false, false, false] rfl rfl (by kernel_rfl) (by decide) (fun K hK => ?_)
        refine value_ (w1 := ?_) (v := ?_) (by rfl) rfl ?_ ?_
        rotate_left 2
        · go_simp
          constructor
          · rfl
          · rfl
        refine hK.out _ _ (cellLow HZ1.out (below_drew (below_alloc (below_alloc (Below.refl w40.heap.size w40) _) _))) (fun hHeld => ?_)
        clear hK K
        refine norm_ (a' := ?_) ?_ ?_
        rotate_left
        · show Act.put _ (some 74) _ = _
          simp only [Act.put, List.setIfInBounds_toArray, List.set_cons_zero, List.set_cons_succ, i64_w, i32_w]
          rfl
        refine one_ (i := 8) (N := some 81) #[true, true, true, true, true, true, true, true, true, true, true, false, true, true, true, true, true, true, false, false, false, false] rfl rfl (by kernel_rfl) (by decide) (fun K hK => ?_)
        refine Kd.R_append_rows_step kI (Rr := kI.K ((w40.alloc (.cells #[.int .i64 t] 3)).alloc (.cells #[] 3)).drew) (w0 := w40) w40.heap.size (by rfl) (.tmp 74) (.tmp 80) 27 3 (.int .i64 0) 8 rfl Try.underlying27 infoInt rfl (by decide) (by omega) (.slice (some ⟨w40.heap.size + 1, 0, none⟩) 0 0) ([] : List Int) ((l.map Prod.snd).take k) A2 k c2 (fun k => w40.heap.size ≤ k) (fun _ => False) rfl rfl ?aO ?aR ?aK (fun _ hk => hk.elim) ?aF ?aB ?aS ?aL ?_
        (case aO => exact Kd.R_below (nil_rowg (w := (w40.alloc (.cells #[.int .i64 t] 3))) (b := w40.heap.size) (g := w40.heap.size + 1) (by first | rfl | exact Array.size_push .. | simp) (by omega)) (below_drew (Below.refl _ _)))
        (case aR => exact (HCT1.out _ _ (map_len l).symm (Kd.F_now (Kd.F_below HF1.out (below_drew (below_alloc (below_alloc (Below.refl w40.heap.size w40) _) _))))))
        (case aK => exact fun x cs hx => hx)
        (case aF => exact fun k hk => Nat.le_trans (below_drew (below_alloc (below_alloc (Below.refl w40.heap.size w40) _) _)).size hk)
        (case aB => exact (below_drew (below_alloc (below_alloc (Below.refl w40.heap.size w40) _) _)))
        (case aS => exact (below_drew (below_alloc (below_alloc (Below.refl w40.heap.size w40) _) _)).size)
        (case aL => show (0 + k) * 8 ≤ _; omega)
        intro v476 w476 ho476 hb476 hg476 hat476
        have HB476 := Aside0.mk (show Below w40.heap.size w40 w476 from hb476)
        obtain ⟨A476, n476, c476, rfl⟩ : ∃ A n c, v476 = .slice A n c := by obtain ⟨A, c, e⟩ := Kd.R_slice ho476; exact ⟨A, _, c, e⟩
        have HO476 := Aside0.mk ho476
        have HW476 := Aside0.mk (show ∀ j, (Value.slice A476 n476 c476).ownBlock = some j → j = w40.heap.size + 1 ∨ ((w40.alloc (.cells #[.int .i64 t] 3)).alloc (.cells #[] 3)).drew.heap.size ≤ j from fun j hj => hat476.elim (fun h => .inl (by rw [h] at hj; exact (Option.some.inj hj).symm)) (fun h => .inr (by obtain ⟨b, hb, hle⟩ := h; rw [hb] at hj; have := Option.some.inj hj; omega)))
        have HC476 := Aside0.mk (show w476.heap[w40.heap.size]? = some (.cells #[.int .i64 t] 3 (0, 0)) from blk_grown (w := ((w40.alloc (.cells #[.int .i64 t] 3)).alloc (.cells #[] 3)).drew) (blk_alloc (blk_newg (w := w40) (ob := (.cells #[.int .i64 t] 3)) (by first | rfl | exact Array.size_push .. | simp)) (.cells #[] 3)) hg476 (fun he => by have h2 : w40.heap.size = w40.heap.size + 1 := Option.some.inj he; omega))
        clear ho476 hb476 hg476 hat476
        refine hK.out _ _ (cellLow HZ1.out HB476.out) (fun hHeld => ?_)
        clear hK K
        refine norm_ (a' := ?_) ?_ ?_
        rotate_left
        · show Act.put _ (some 81) _ = _
          simp only [Act.put, List.setIfInBounds_toArray, List.set_cons_zero, List.set_cons_succ, i64_w, i32_w]
          rfl
        exact norm_ (by simp only [putAll, Act.put, List.setIfInBounds_toArray, List.set_cons_zero, List.set_cons_succ]) (hCont (.slice (some ⟨w40.heap.size + 1, 0, none⟩) 0 0, .slice A476 n476 c476, w40.heap.size) _ ⟨hHeld, ⟨HB476.out, HO476.out, HC476.out⟩⟩)
    rintro ⟨v53, v60, g47⟩ w47 ⟨hHeld, hMid⟩
    obtain ⟨Am47, nm47, cm47, rfl⟩ : ∃ A n c, v60 = .slice A n c := by obtain ⟨A, c, e⟩ := Kd.R_slice hMid.2.1; exact ⟨A, _, c, e⟩
    have HMID47 := Aside0.mk hMid
    clear hMid
    dsimp only
    refine norm_ (a' := ?_) ?_ ?_
    rotate_left
    · simp only [putAll, Act.put, List.setIfInBounds_toArray, List.set_cons_zero, List.set_cons_succ]
      rfl
    refine one_ (i := 11) (N := some 84) #[true, true, true, true, true, true, true, true, true, true, true, true, true, true, true, true, true, true, false, false, false, false] rfl rfl (by kernel_rfl) (by decide) (fun K hK => ?_)
    refine Kd.R_append_rows_step kI (Rr := kI.K w47) (w0 := w40) w40.heap.size (by rfl) (.tmp 81) (.tmp 83) 27 3 (.int .i64 0) 8 rfl Try.underlying27 infoInt rfl (by decide) (by omega) (.slice Am47 nm47 cm47) (([] : List Int) ++ (l.map Prod.snd).take k) [t] (some ⟨g47, 0, none⟩) 1 1 (fun k => w40.heap.size ≤ k) (fun _ => False) rfl rfl ?aO ?aR ?aK (fun _ hk => hk.elim) ?aF ?aB ?aS ?aL ?_
    (case aO => exact HMID47.out.2.1)
    (case aR => exact one_C HMID47.out.2.2)
    (case aK => exact fun x cs hx => hx)
    (case aF => exact fun k hk => Nat.le_trans HMID47.out.1.size hk)
    (case aB => exact HMID47.out.1)
    (case aS => exact HMID47.out.1.size)
    (case aL => rw [List.nil_append, List.length_take]; omega)
    intro v48 w48 ho48 hb48 hg48 hat48
    have HB48 := Aside0.mk (show Below w40.heap.size w40 w48 from hb48)
    obtain ⟨A48, n48, c48, rfl⟩ : ∃ A n c, v48 = .slice A n c := by obtain ⟨A, c, e⟩ := Kd.R_slice ho48; exact ⟨A, _, c, e⟩
    have HO48 := Aside0.mk ho48
    clear ho48 hb48 hg48 hat48
    refine hK.out _ _ (cellLow HZ1.out HB48.out) (fun hHeld => ?_)
    clear hK K
    refine norm_ (a' := ?_) ?_ ?_
    rotate_left
    · show Act.put _ (some 84) _ = _
      simp only [Act.put, List.setIfInBounds_toArray, List.set_cons_zero, List.set_cons_succ, i64_w, i32_w]
      rfl
    refine one_ (i := 18) (N := some 91) #[true, true, true, true, true, true, true, true, true, true, true, true, true, true, true, true, true, true, true, false, false, false] rfl rfl (by kernel_rfl) (by decide) (fun K hK => ?_)
    refine Kd.R_append_rows_step kI (Rr := kI.K w48) (w0 := w40) w40.heap.size (by rfl) (.tmp 84) (.tmp 90) 27 3 (.int .i64 0) 8 rfl Try.underlying27 infoInt rfl (by decide) (by omega) (.slice A48 n48 c48) ((([] : List Int) ++ (l.map Prod.snd).take k) ++ [t]) ((l.map Prod.snd).drop k) Af1 (l.length - k) cf1 (fun k => w40.heap.size ≤ k) (fun _ => False) rfl rfl ?aO ?aR ?aK (fun _ hk => hk.elim) ?aF ?aB ?aS ?aL ?_
    (case aO => exact HO48.out)
    (case aR => exact (HCF1.out _ _ (map_len l).symm (Kd.F_now (Kd.F_below HF1.out HB48.out))))
    (case aK => exact fun x cs hx => hx)
    (case aF => exact fun k hk => Nat.le_trans HB48.out.size hk)
    (case aB => exact HB48.out)
    (case aS => exact HB48.out.size)
    (case aL => rw [List.nil_append, List.length_append, List.length_take, List.length_singleton]; omega)
    intro v49 w49 ho49 hb49 hg49 hat49
    have HB49 := Aside0.mk (show Below w40.heap.size w40 w49 from hb49)
    obtain ⟨A49, n49, c49, rfl⟩ : ∃ A n c, v49 = .slice A n c := by obtain ⟨A, c, e⟩ := Kd.R_slice ho49; exact ⟨A, _, c, e⟩
    have HO49 := Aside0.mk ho49
    clear ho49 hb49 hg49 hat49
    have hq49 := blk_below HQ1.out HB49.out
    have HQN49 := Aside0.mk hq49
    have hf49 := blk_frozen hq49 1
    have hz49 : w49.cell? ⟨q, 1, none⟩ = some (.slice A2 l.length c2) := (blk_cell hq49 1).trans rfl
    clear hq49
    refine hK.out _ _ (hz49) (fun hHeld => ?_)
    clear hK K
    refine norm_ (a' := ?_) ?_ ?_
    rotate_left
    · show Act.put _ (some 91) _ = _
      simp only [Act.put, List.setIfInBounds_toArray, List.set_cons_zero, List.set_cons_succ, i64_w, i32_w]
      rfl
    refine pure_ (i := 19) (N := some 92) (v := ?_) (a' := ?_) #[true, true, true, true, true, true, true, true, true, true, true, true, true, true, true, true, true, true, true, true, false, false] rfl rfl (by kernel_rfl) (fun _ _ _ h => h) (Or.inl ⟨by rfl, ?_⟩) ?_ ?_
    rotate_left
    · intro w'
      go_simp
      with_reducible rfl
    rotate_left
    · simp only [Act.put, List.setIfInBounds_toArray, List.set_cons_zero, List.set_cons_succ, i64_w, i32_w]
      rfl
    refine pure_ (i := 20) (N := some 93) (v := ?_) (a' := ?_) #[true, true, true, true, true, true, true, true, true, true, true, true, true, true, true, true, true, true, true, true, true, false] rfl rfl (by kernel_rfl) (fun _ _ _ h => h) (Or.inl ⟨by rfl, ?_⟩) ?_ ?_
    rotate_left
    · intro w'
      go_simp
      with_reducible rfl
    rotate_left
    · simp only [Act.put, List.setIfInBounds_toArray, List.set_cons_zero, List.set_cons_succ, i64_w, i32_w]
      rfl
    refine last_ (i := 21) (N := none) #[true, true, true, true, true, true, true, true, true, true, true, true, true, true, true, true, true, true, true, true, true, true] rfl rfl (by kernel_rfl) (by decide) (fun K hK => ?_)
    refine skip_ (w1 := ?_) (by rfl) rfl ?_ ?_
    rotate_left
    · go_simp
      rfl
    refine hK.out _ _ ?_
    clear hK K
    refine done_ (by kernel_rfl) ?_
    obtain ⟨w50, hw50⟩ : ∃ w, w = w49.setCell ⟨q, 1, none⟩ (.slice A49 n49 c49) := ⟨_, rfl⟩
    rw [← hw50]
    have HC50 := Aside0.mk (show Chg (fun k => k = q) wc w50 from by rw [hw50]; exact (HC40.out.below HB49.out).setCell (p := ⟨q, 1, none⟩) (.inl rfl) _)
    have HQ50 := Aside0.mk (show w50.heap[q]? = some (.cells #[.slice A29 n29 c29, .slice A49 n49 c49] 29 (0, 0)) from by rw [hw50]; exact blk_set HQN49.out 1 _)
    have hs40 := HC40.out.size
    have hs50 := HC50.out.size
    have hql := HQL.out
    have HO50 := Aside0.mk (show kI.R 3 w50 w40.heap.size (fun k => w40.heap.size ≤ k) (.slice A49 n49 c49) (([] ++ (l.map Prod.snd).take k ++ [t]) ++ (l.map Prod.snd).drop k) from by rw [hw50]; exact Kd.R_far HO49.out (fun k hk => by show k ≠ q; omega) _)
    have HO51 := Aside0.mk (show kI.R 3 w50 wc.heap.size (fun k => wc.heap.size ≤ k) (.slice A29 n29 c29) (([] ++ (l.map Prod.fst).take k ++ [id]) ++ (l.map Prod.fst).drop k) from by rw [hw50]; exact Kd.R_far (Kd.R_below HO40.out HB49.out) (fun k hk => by show k ≠ q; omega) _)
    rw [ins_map l Prod.snd (id, t) HKP.out] at HO50
    rw [ins_map l Prod.fst (id, t) HKP.out] at HO51
    have HM := Aside0.mk (RD.made (G := G1) HQ50.out HG.out hql HO51.out hs40 HO50.out hs50)
    clear hw50 hz49 hf49 hs40 hs50 hql hct1 hcf1 hz1
    go_wp2
    refine bodyPost_end (results_none rfl _ _ _) rfl ?_
    refine ⟨rfl, _, ?_, fun j hj => ⟨(HM.out.2 j hj).1.elim (fun h => (HG1.out j h).1) (fun h => .inr (Nat.le_trans HCG.out.size h)), (HM.out.2 j hj).2⟩, HCG.out.then_ HC50.out (fun j hj => (HG1.out j (by rw [hj]; exact HG.out)).1)⟩
    unfold rsetF
    rw [← HLL.out]
    exact HM.out.1
def RFirst (l : List En) (now : Int) (w : World) (e : Ending) (w' : World) : Prop := e = .returned (.tuple #[.int .i64 (firstF l now).1, .bool (firstF l now).2]) ∧ w' = w
set_option maxHeartbeats 8000000 in
set_option maxRecDepth 100000 in
theorem rfirst_calls (w : World) (G : Nat → Prop) (q : Nat) (l : List En) (h : RD w G q l) (now : Int) (hl : l.length ≤ 100000) :
    Calls Try.prog 15 #[.pointer (some ⟨q, 0, none⟩), .int .i64 now] w (RFirst l now w) := by
  obtain ⟨A1, c1, A2, c2, hq, _, _, hF1, hF2, hG⟩ := h
  have hz0 : w.cell? ⟨q, 0, none⟩ = some (.slice A1 l.length c1) := (blk_cell hq 0).trans rfl
  have hz1 : w.cell? ⟨q, 1, none⟩ = some (.slice A2 l.length c2) := (blk_cell hq 1).trans rfl
  cases l with
  | nil =>
    have hz0' : w.cell? ⟨q, 0, none⟩ = some (.slice A1 0 c1) := hz0
    clear hq hF1 hF2 hG hz0
    go_enter Try.func15, Try.ntmps15
    go_wp2
    go_ret2
    exact ⟨rfl, rfl⟩
  | cons x l =>
    obtain ⟨ad1, rfl, hx⟩ := ints_at (f := Prod.fst) (Kd.F_now hF1) 0 (by simp)
    obtain ⟨ad2, rfl, hy⟩ := ints_at (f := Prod.snd) (Kd.F_now hF2) 0 (by simp)
    have hz0' : w.cell? ⟨q, 0, none⟩ = some (.slice (some ad1) (l.length + 1) c1) := hz0
    have hz1' : w.cell? ⟨q, 1, none⟩ = some (.slice (some ad2) (l.length + 1) c2) := hz1
    have hx' : w.cell? ad1 = some (.int .i64 x.1) := by rw [← add_zero' ad1]; exact hx
    have hy' : w.cell? ad2 = some (.int .i64 x.2) := by rw [← add_zero' ad2]; exact hy
    have hpl : ((l.length : Int) + 1 == 0) = false := beq_eq_false_iff_ne.2 (by omega)
    clear hq hF1 hF2 hG hz0 hz1 hx hy
    by_cases hn : now < x.2
    · have HF := Aside0.mk (show firstF (x :: l) now = (0, false) from if_pos hn)
      go_enter Try.func15, Try.ntmps15
      go_wp2
      go_ret2
      unfold RFirst
      rw [HF.out]
      exact ⟨rfl, rfl⟩
    · have HF := Aside0.mk (show firstF (x :: l) now = (x.1, true) from if_neg hn)
      go_enter Try.func15, Try.ntmps15
      go_wp2
      go_ret2
      unfold RFirst
      rw [HF.out]
      exact ⟨rfl, rfl⟩
end Go.Proofs.Ytebmhjiogomheaa.Hand
