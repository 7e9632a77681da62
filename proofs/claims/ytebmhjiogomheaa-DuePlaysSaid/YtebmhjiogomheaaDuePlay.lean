/- The pile and the document's list, side by side: plain, and in memory. -/
import Derived.Test.YtebmhjiogomheaaDueRef
namespace Go.Proofs.Ytebmhjiogomheaa.Hand
open Go.RowKit Go.Proofs.YtebmhjiogomheaaW.PrintWords Go.Proofs.YtebmhjiogomheaaW.PrintLast Go.Proofs.YtebmhjiogomheaaW.PrintMore Go.Proofs.Ytebmhjiogomheaa.PA
set_option linter.unusedVariables false
set_option linter.unusedSimpArgs false
/-- The list is the pile, in order. -/
structure Eq2 (p l : List En) : Prop where
  hp : Hp p
  perm : l.Perm p
  sorted : l.Pairwise fun x y => ltE x y = true
theorem Eq2.start : Eq2 [] [] := ⟨Hp.nil, List.Perm.refl _, List.Pairwise.nil⟩
theorem idx_has (id : Int) (p : List En) : idxN id p < p.length ↔ ∃ e ∈ p, e.1 = id := by
  unfold idxN
  rw [List.findIdx_lt_length]
  constructor
  · rintro ⟨e, h1, h2⟩
    exact ⟨e, h1, by simpa using h2⟩
  · rintro ⟨e, h1, h2⟩
    exact ⟨e, h1, by simpa using h2⟩
theorem Uniq.same {p : List En} (h : Uniq p) {x y : En} (hx : x ∈ p) (hy : y ∈ p) (he : x.1 = y.1) : x = y := by
  unfold Uniq List.Nodup at h
  rw [List.pairwise_map] at h
  obtain ⟨i, hi, rfl⟩ := List.getElem_of_mem hx
  obtain ⟨j, hj, rfl⟩ := List.getElem_of_mem hy
  have h2 := List.pairwise_iff_getElem.1 h
  rcases Nat.lt_trichotomy i j with h3 | h3 | h3
  · exact absurd he (h2 i j hi hj h3)
  · subst h3; rfl
  · exact absurd he.symm (h2 j i hj hi h3)
theorem erase_perm {l : List En} {i : Nat} (hi : i < l.length) : (l[i] :: l.eraseIdx i).Perm l := by
  have e : l = l.take i ++ l[i] :: l.drop (i + 1) := by rw [List.getElem_cons_drop, List.take_append_drop]
  rw [List.eraseIdx_eq_take_drop_succ]
  exact List.perm_middle.symm.trans (List.Perm.of_eq e.symm)
theorem Eq2.has {p l : List En} (h : Eq2 p l) (id : Int) : (idxN id p < p.length) = (idxN id l < l.length) := by
  rw [idx_has, idx_has]
  exact propext ⟨fun ⟨e, h1, h2⟩ => ⟨e, h.perm.mem_iff.2 h1, h2⟩, fun ⟨e, h1, h2⟩ => ⟨e, h.perm.mem_iff.1 h1, h2⟩⟩
theorem Eq2.drop {p l : List En} (h : Eq2 p l) (id : Int) : Eq2 (dropF p id) (rdropF l id) := by
  refine ⟨h.hp.drop id, ?_, ?_⟩
  · unfold dropF rdropF
    by_cases hi : idxN id p < p.length
    · have hj : idxN id l < l.length := by rw [← h.has id]; exact hi
      rw [if_pos hi, if_pos hj]
      have h1 := rm_perm p _ hi
      have h2 := erase_perm hj
      have e1 : (getE p (idxN id p)).1 = id := idx_at hi
      have e2 : l[idxN id l].1 = id := by have := idx_at hj; rwa [getE_at _ _ hj] at this
      have m1 : getE p (idxN id p) ∈ p := h1.mem_iff.1 List.mem_cons_self
      have m2 : l[idxN id l] ∈ p := h.perm.mem_iff.1 (List.getElem_mem hj)
      rw [h.hp.uniq.same m2 m1 (by rw [e1, e2])] at h2
      exact ((h2.trans h.perm).trans h1.symm).cons_inv
    · have hj : ¬ idxN id l < l.length := by rw [← h.has id]; exact hi
      rw [if_neg hi, if_neg hj]
      exact h.perm
  · unfold rdropF
    split
    · exact h.sorted.sublist (List.eraseIdx_sublist _ _)
    · exact h.sorted
theorem Eq2.none {p l : List En} (h : Eq2 p l) (id : Int) : ∀ y ∈ rdropF l id, y.1 ≠ id := by
  intro y hy
  have h1 := (h.drop id).perm.mem_iff.1 hy
  have h2 := (drop_perm h.hp.uniq id).mem_iff.1 h1
  have h3 := (List.mem_filter.1 h2).2
  simpa using h3
theorem ins_sorted {l : List En} {e : En} (h : l.Pairwise fun x y => ltE x y = true) (hn : ∀ y ∈ l, y.1 ≠ e.1) : (insE l e).Pairwise fun x y => ltE x y = true := by
  unfold insE
  have hto : ∀ {x y : En}, x.1 ≠ y.1 → ltE x y = false → ltE y x = true := by
    intro x y h1 h2
    rw [ltE_no] at h2
    rw [ltE_iff]
    omega
  have hA : ∀ x ∈ l.take (posE l e), ltE x e = true := by
    intro x hx
    obtain ⟨i, hi, rfl⟩ := List.getElem_of_mem hx
    rw [List.length_take] at hi
    have := List.not_of_lt_findIdx (xs := l) (p := fun x => !ltE x e) (i := i) (by show i < posE l e; omega)
    rw [List.getElem_take]
    simpa using this
  have hB : ∀ y ∈ l.drop (posE l e), ltE e y = true := by
    intro y hy
    rcases Nat.lt_or_ge (posE l e) l.length with hlt | hge
    · have h0 : ltE l[posE l e] e = false := by
        have := List.findIdx_getElem (xs := l) (p := fun x => !ltE x e) (w := hlt)
        have e2 : l[l.findIdx (fun x => !ltE x e)] = l[posE l e] := by congr 1
        rw [e2] at this
        simpa using this
      have h1 : ltE e l[posE l e] = true := hto (hn _ (List.getElem_mem hlt)) h0
      obtain ⟨i, hi, rfl⟩ := List.getElem_of_mem hy
      rw [List.length_drop] at hi
      rw [List.getElem_drop]
      rcases Nat.eq_zero_or_pos i with hi0 | hi0
      · subst hi0
        exact h1
      · exact ltE_trans h1 (List.pairwise_iff_getElem.1 h _ _ hlt (by omega) (by omega))
    · rw [List.drop_of_length_le hge] at hy
      cases hy
  rw [List.pairwise_append, List.pairwise_cons]
  refine ⟨h.sublist (List.take_sublist _ _), ⟨hB, h.sublist (List.drop_sublist _ _)⟩, ?_⟩
  intro x hx y hy
  rcases List.mem_cons.1 hy with rfl | hy
  · exact hA x hx
  · exact ltE_trans (hA x hx) (hB y hy)
theorem Eq2.set {p l : List En} (h : Eq2 p l) (id t : Int) : Eq2 (setF p id t) (rsetF l id t) := by
  refine ⟨h.hp.set id t, ?_, ins_sorted (h.drop id).sorted (h.none id)⟩
  have h1 : (setF p id t).Perm ((id, t) :: dropF p id) := (upF_perm _ _ _).trans (List.perm_append_singleton _ _)
  refine List.Perm.trans ?_ h1.symm
  unfold rsetF insE
  refine (List.perm_middle).trans (List.Perm.cons _ ?_)
  rw [List.take_append_drop]
  exact (h.drop id).perm
theorem Eq2.first {p l : List En} (h : Eq2 p l) (now : Int) : firstF p now = firstF l now := by
  cases l with
  | nil =>
    have := h.perm.symm.eq_nil
    rw [this]
  | cons x t =>
    obtain ⟨t', rfl⟩ := h.hp.first (x := x) (h.perm.mem_iff.1 List.mem_cons_self) (fun y hy => by
      rcases List.mem_cons.1 (h.perm.mem_iff.2 hy) with rfl | hy
      · exact ltE_irrefl _
      · exact ltE_asymm ((List.pairwise_cons.1 h.sorted).1 y hy))
    rfl
theorem Eq2.all {p l : List En} (h : Eq2 p l) : sortE p = l := by
  refine List.Perm.eq_of_pairwise (le := fun x y => ltE y x = false) ?_ (sortE_sorted p) (h.sorted.imp fun hh => ltE_asymm hh) ((sortE_perm p).trans h.perm.symm)
  intro x y _ _ h1 h2
  exact ltE_eq h2 h1
theorem Eq2.len {p l : List En} (h : Eq2 p l) : l.length = p.length := h.perm.length_eq
theorem setF_len (p : List En) (id t : Int) : (setF p id t).length ≤ p.length + 1 := by
  unfold setF
  rw [upF_len, List.length_append, List.length_singleton]
  have := dropF_len p id
  omega
/-! ## In memory -/
structure PS (W w : World) (F G : Nat → Prop) (q1 q2 : Nat) (p l : List En) : Prop where
  d : DL W w F q1 p
  r : RD w G q2 l
  off : ∀ k, F k → ¬ G k
  low : ∀ k, G k → W.heap.size ≤ k ∧ k < w.heap.size
section
variable {W w w' : World} {F G : Nat → Prop} {q1 q2 : Nat} {p l : List En}
theorem Pl.chg (h : Pl w F q1 p) (hc : Chg G w w') (hF : ∀ k, F k → ¬ G k) : Pl w' F q1 p := by
  obtain ⟨A, c, h1, h2, h3⟩ := h
  exact ⟨A, c, hc.blk h1 (hF q1 h3), Kd.R_step h2 (fun k hk hlt => hc.block k hlt (hF k hk.1)), h3⟩
theorem PS.below (h : PS W w F G q1 q2 p l) (hb : Below w.heap.size w w') : PS W w' F G q1 q2 p l := ⟨h.d.below hb, h.r.below hb, h.off, fun k hk => ⟨(h.low k hk).1, Nat.lt_of_lt_of_le (h.low k hk).2 hb.size⟩⟩
theorem PS.ddrop (h : PS W w F G q1 q2 p l) (id : Int) (hl : p.length ≤ 100000) :
    Calls Try.prog 10 #[.pointer (some ⟨q1, 0, none⟩), .int .i64 id] w fun e w' => e = .returned (.bool (decide (idxN id p < p.length))) ∧ PS W w' F G q1 q2 (dropF p id) l :=
  (drop_calls w F q1 p h.d.1 id hl).mono fun e w' ⟨h1, h2, h3⟩ => ⟨h1, h.d.same h2 h3, h.r.chg h3 (fun k hg hf => h.off k hf hg), h.off, fun k hk => ⟨(h.low k hk).1, Nat.lt_of_lt_of_le (h.low k hk).2 h3.size⟩⟩
theorem PS.dset (h : PS W w F G q1 q2 p l) (id t : Int) (hl : p.length ≤ 99999) :
    Calls Try.prog 12 #[.pointer (some ⟨q1, 0, none⟩), .int .i64 id, .int .i64 t] w fun e w' => e = .returned (.tuple #[]) ∧ ∃ F', PS W w' F' G q1 q2 (setF p id t) l :=
  (set_calls w F q1 p h.d.1 id t hl).mono fun e w' ⟨h1, F', h2, h3, h4⟩ => ⟨h1, F', h.d.grow h2 h3 h4, h.r.chg h4 (fun k hg hf => h.off k hf hg), fun k hk hg => (h3 k hk).1.elim (fun hf => h.off k hf hg) (fun hge => by have := (h.low k hg).2; omega), fun k hk => ⟨(h.low k hk).1, Nat.lt_of_lt_of_le (h.low k hk).2 h4.size⟩⟩
theorem PS.other {G' : Nat → Prop} {l' : List En} (h : PS W w F G q1 q2 p l) (hr : RD w' G' q2 l') (hg : Grew G G' w w') (hc : Chg G w w') : PS W w' F G' q1 q2 p l' := by
  refine ⟨⟨h.d.1.chg hc h.off, fun k hk => ⟨(h.d.2.1 k hk).1, Nat.lt_of_lt_of_le (h.d.2.1 k hk).2 hc.size⟩, h.d.2.2.trans (hc.to_below (B := W.heap.size) (fun k hk => (h.low k hk).1) h.d.2.2.size)⟩, hr, fun k hk hg' => ?_, fun k hk => ⟨(hg k hk).1.elim (fun h1 => (h.low k h1).1) (Nat.le_trans h.d.2.2.size), (hg k hk).2⟩⟩
  · rcases (hg k hg').1 with h1 | h1
    · exact h.off k hk h1
    · have := (h.d.2.1 k hk).2
      omega
theorem PS.rdrop (h : PS W w F G q1 q2 p l) (id : Int) (hl : l.length ≤ 100000) :
    Calls Try.prog 11 #[.pointer (some ⟨q2, 0, none⟩), .int .i64 id] w fun e w' => e = .returned (.bool (decide (idxN id l < l.length))) ∧ ∃ G', PS W w' F G' q1 q2 p (rdropF l id) :=
  (rdrop_calls w G q2 l h.r id hl).mono fun e w' ⟨h1, G', h2, h3, h4⟩ => ⟨h1, G', h.other h2 h3 h4⟩
theorem PS.rset (h : PS W w F G q1 q2 p l) (id t : Int) (hl : l.length ≤ 99999) :
    Calls Try.prog 13 #[.pointer (some ⟨q2, 0, none⟩), .int .i64 id, .int .i64 t] w fun e w' => e = .returned (.tuple #[]) ∧ ∃ G', PS W w' F G' q1 q2 p (rsetF l id t) :=
  (rset_calls w G q2 l h.r id t hl).mono fun e w' ⟨h1, G', h2, h3, h4⟩ => ⟨h1, G', h.other h2 h3 h4⟩
end
theorem PS.start {W w : World} {F : Nat → Prop} {q1 : Nat} (h : DL W w F q1 []) : PS W (w.alloc (.cells #[.slice none 0 0, .slice none 0 0] 29)) F (fun k => k = w.heap.size) q1 w.heap.size [] [] := by
  have hb := below_alloc (Below.refl w.heap.size w) (.cells #[.slice none 0 0, .slice none 0 0] 29)
  refine ⟨h.below hb, ⟨none, 0, none, 0, blk_new w _, Nat.le_refl _, Nat.le_refl _, ?_, ?_, rfl⟩, fun k hk hg => ?_, fun k hk => ⟨?_, ?_⟩⟩
  · exact Kd.R_F (Kd.R_nil kI 3 _ 0 _)
  · exact Kd.R_F (Kd.R_nil kI 3 _ 0 _)
  · have := (h.2.1 k hk).2
    omega
  · rw [hk]; exact h.2.2.size
  · rw [hk]; simp
end Go.Proofs.Ytebmhjiogomheaa.Hand
