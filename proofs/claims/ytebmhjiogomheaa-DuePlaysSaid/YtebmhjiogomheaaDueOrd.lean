/- Plain: what is due first, what comes in order: over a heap of entries, one an id. -/
import Derived.Test.YtebmhjiogomheaaDueAll
namespace Go.Proofs.Ytebmhjiogomheaa.Hand
open Go.RowKit
set_option linter.unusedVariables false
set_option linter.unusedSimpArgs false
/-- A heap of entries, one an id. -/
structure Hp (p : List En) : Prop where
  heap : HeapE p
  uniq : Uniq p
theorem Hp.nil : Hp [] := ⟨fun k _ h => by simp at h, List.nodup_nil⟩
theorem Hp.set {p : List En} (h : Hp p) (i t : Int) : Hp (setF p i t) := ⟨set_heap h.heap i t, set_uniq h.uniq i t⟩
theorem Hp.drop {p : List En} (h : Hp p) (i : Int) : Hp (dropF p i) := ⟨drop_heap h.heap i, by
  have h1 := drop_perm h.uniq i
  have h2 : (p.filter (fun e => e.1 != i)).Sublist p := List.filter_sublist
  exact Uniq.perm (p := p.filter (fun e => e.1 != i)) ((h2.map Prod.fst).nodup h.uniq) h1⟩
theorem Hp.head {e : En} {p : List En} (h : Hp (e :: p)) : ∀ y ∈ e :: p, ltE y e = false := by
  intro y hy
  obtain ⟨k, hk, rfl⟩ := List.getElem_of_mem hy
  have := h.heap.least k hk
  rwa [getE_at _ _ hk, getE_at _ 0 (by simp)] at this
/-- The least is at the head. -/
theorem Hp.first {p : List En} (h : Hp p) {x : En} (hx : x ∈ p) (hm : ∀ y ∈ p, ltE y x = false) : ∃ t, p = x :: t := by
  cases p with
  | nil => simp at hx
  | cons e t => exact ⟨t, by rw [ltE_eq (hm e (by simp)) (h.head x hx)]⟩
/-- The times, each with its place for an id. -/
def enE (l : List Int) : List En := l.zipIdx.map fun x => ((x.2 : Int), x.1)
theorem enE_snoc (l : List Int) (t : Int) : enE (l ++ [t]) = enE l ++ [((l.length : Int), t)] := by
  unfold enE
  rw [List.zipIdx_append, List.map_append]
  simp
theorem enE_len (l : List Int) : (enE l).length = l.length := by unfold enE; rw [List.length_map, List.length_zipIdx]
theorem enE_mem {l : List Int} {y : En} : y ∈ enE l ↔ ∃ j, ∃ hj : j < l.length, y = ((j : Int), l[j]) := by
  unfold enE
  rw [List.mem_map]
  constructor
  · rintro ⟨⟨t, j⟩, hx, rfl⟩
    obtain ⟨h1, h2⟩ := List.mem_zipIdx' hx
    exact ⟨j, h1, by rw [h2]⟩
  · rintro ⟨j, hj, rfl⟩
    exact ⟨(l[j], j), by
      rw [List.mk_mem_zipIdx_iff_getElem?, List.getElem?_eq_getElem hj], rfl⟩
/-- The times told so far are set. -/
structure Tl (l : List Int) (i : Nat) (p : List En) : Prop where
  hp : Hp p
  perm : p.Perm (enE (l.take i))
theorem Tl.start (l : List Int) : Tl l 0 [] := ⟨Hp.nil, by rw [List.take_zero]; exact List.Perm.refl _⟩
theorem filter_all {p : List En} {f : En → Bool} (h : ∀ y ∈ p, f y = true) : p.filter f = p := List.filter_eq_self.2 h
theorem Tl.step {l : List Int} {i : Nat} {p : List En} (h : Tl l i p) (hi : i < l.length) : Tl l (i + 1) (setF p i l[i]) := by
  refine ⟨h.hp.set _ _, (set_perm h.hp.uniq _ _).trans ?_⟩
  rw [List.take_succ_eq_append_getElem hi, enE_snoc, List.length_take, Nat.min_eq_left (by omega), filter_all (fun y hy => by
    obtain ⟨j, hj, rfl⟩ := enE_mem.1 (h.perm.mem_iff.1 hy)
    rw [List.length_take] at hj
    simp only [bne_iff_ne, ne_eq]
    omega)]
  exact (List.perm_append_singleton _ _).symm.trans (h.perm.append_right _)
theorem Tl.len {l : List Int} {i : Nat} {p : List En} (h : Tl l i p) (hi : i ≤ l.length) : p.length = i := by
  rw [h.perm.length_eq, enE_len, List.length_take]; omega
theorem Tl.mem {l : List Int} {i : Nat} {p : List En} (h : Tl l i p) (hi : i ≤ l.length) {y : En} : y ∈ p ↔ ∃ j, ∃ hj : j < l.length, j < i ∧ y = ((j : Int), l[j]) := by
  rw [h.perm.mem_iff, enE_mem]
  constructor
  · rintro ⟨j, hj, rfl⟩
    rw [List.length_take] at hj
    exact ⟨j, by omega, by omega, by rw [List.getElem_take]⟩
  · rintro ⟨j, hj, hji, rfl⟩
    exact ⟨j, by rw [List.length_take]; omega, by rw [List.getElem_take]⟩
theorem Tl.set_len {l : List Int} {i : Nat} {p : List En} (h : Tl l i p) (hi : i ≤ l.length) (hl : l.length ≤ 100) : p.length ≤ 99999 := by
  have := h.len hi
  omega
/-- f: the first place of the least time among the first i. -/
def Fst (l : List Int) (i f : Nat) : Prop := (i = 0 ∧ f = 0) ∨ (f < i ∧ (∀ j, j < i → l.getD f 0 ≤ l.getD j 0) ∧ ∀ j, j < f → l.getD f 0 < l.getD j 0)
theorem Fst.yes {l : List Int} {i f : Nat} (h : Fst l i f) (hlt : l.getD i 0 < l.getD f 0) : Fst l (i + 1) i := by
  rcases h with ⟨rfl, rfl⟩ | ⟨h1, h2, h3⟩
  · exact .inr ⟨Nat.lt_succ_self _, fun j hj => by have : j = 0 := by omega
                                                   subst this; omega, fun j hj => by omega⟩
  · refine .inr ⟨Nat.lt_succ_self _, fun j hj => ?_, fun j hj => ?_⟩
    · rcases Nat.lt_or_ge j i with h4 | h4
      · have := h2 j h4; omega
      · have : j = i := by omega
        subst this; omega
    · have := h2 j hj; omega
theorem Fst.no {l : List Int} {i f : Nat} (h : Fst l i f) (hlt : ¬ l.getD i 0 < l.getD f 0) : Fst l (i + 1) f := by
  rcases h with ⟨rfl, rfl⟩ | ⟨h1, h2, h3⟩
  · exact .inr ⟨Nat.lt_succ_self _, fun j hj => by have : j = 0 := by omega
                                                   subst this; omega, fun j hj => by omega⟩
  · refine .inr ⟨by omega, fun j hj => ?_, h3⟩
    rcases Nat.lt_or_ge j i with h4 | h4
    · exact h2 j h4
    · have : j = i := by omega
      subst this; omega
theorem getD_at (l : List Int) (i : Nat) (hi : i < l.length) : l.getD i 0 = l[i] := by
  rw [List.getD_eq_getElem?_getD, List.getElem?_eq_getElem hi]; rfl
theorem Fst.head {l : List Int} {f : Nat} {p : List En} (h : Fst l l.length f) (ht : Tl l l.length p) (h0 : 0 < l.length) : ∃ t, p = ((f : Int), l.getD f 0) :: t := by
  rcases h with ⟨h1, _⟩ | ⟨h1, h2, h3⟩
  · omega
  · refine ht.hp.first ((ht.mem (Nat.le_refl _)).2 ⟨f, h1, h1, by rw [getD_at l f h1]⟩) fun y hy => ?_
    obtain ⟨j, hj, _, rfl⟩ := (ht.mem (Nat.le_refl _)).1 hy
    have a := h2 j hj
    rw [getD_at l j hj] at a
    rw [ltE_no]
    dsimp only
    rcases Nat.lt_or_ge j f with h4 | h4
    · have b := h3 j h4
      rw [getD_at l j hj] at b
      omega
    · omega
theorem Fst.early {l : List Int} {f : Nat} {p : List En} (h : Fst l l.length f) (ht : Tl l l.length p) (h0 : 0 < l.length) : (firstF p (l.getD f 0 - 1)).2 = false ∧ firstF p (l.getD f 0) = ((f : Int), true) := by
  obtain ⟨t, rfl⟩ := h.head ht h0
  unfold firstF
  dsimp only
  constructor
  · rw [if_pos (by omega)]
  · rw [if_neg (by omega)]
theorem Fst.lt {l : List Int} {i f : Nat} (h : Fst l i f) (hi : i ≤ l.length) (h0 : 0 < l.length) : f < l.length := by
  rcases h with ⟨_, rfl⟩ | ⟨h1, _⟩ <;> omega
/-- Taken one by one: r taken, the last one at place 'last', time 'time'; p is left. -/
structure Ord (l : List Int) (r : Nat) (last time : Int) (p : List En) : Prop where
  hp : Hp p
  len : p.length + r = l.length
  mem : ∀ y ∈ p, ∃ j, ∃ hj : j < l.length, y = ((j : Int), l[j])
  above : ∀ y ∈ p, ltE (last, time) y = true
theorem Tl.ord {l : List Int} {p : List En} (h : Tl l l.length p) (hb : ∀ x ∈ l, -128 ≤ x ∧ x < 128) : Ord l 0 (-1) (-1000) p where
  hp := h.hp
  len := h.len (Nat.le_refl _)
  mem y hy := by
    obtain ⟨j, hj, _, e⟩ := (h.mem (Nat.le_refl _)).1 hy
    exact ⟨j, hj, e⟩
  above y hy := by
    obtain ⟨j, hj, _, rfl⟩ := (h.mem (Nat.le_refl _)).1 hy
    rw [ltE_iff]
    have := hb _ (List.getElem_mem hj)
    left
    show -1000 < l[j]
    omega
theorem Ord.step {l : List Int} {r : Nat} {last time : Int} {p : List En} (h : Ord l r last time p) (hr : r < l.length) (hb : ∀ x ∈ l, -128 ≤ x ∧ x < 128) :
    ∃ j, ∃ hj : j < l.length, firstF p 1000 = ((j : Int), true) ∧ ¬ l[j] < time ∧ ¬ (l[j] = time ∧ (j : Int) ≤ last) ∧ Ord l (r + 1) j l[j] (dropF p j) := by
  cases p with
  | nil => have := h.len; simp at this; omega
  | cons e t =>
    obtain ⟨j, hj, rfl⟩ := h.mem e (by simp)
    have ha := h.above _ List.mem_cons_self
    rw [ltE_iff] at ha
    dsimp only at ha
    have hbj := hb _ (List.getElem_mem hj)
    have hf : firstF (((j : Int), l[j]) :: t) 1000 = ((j : Int), true) := by
      unfold firstF
      dsimp only
      rw [if_neg (by omega)]
    have hdp := drop_perm h.hp.uniq (j : Int)
    have hft : ((((j : Int), l[j]) : En) :: t).filter (fun e => e.1 != (j : Int)) = t := by
      rw [List.filter_cons_of_neg (by simp)]
      refine filter_all fun y hy => ?_
      have hu := h.hp.uniq
      unfold Uniq at hu
      rw [List.map_cons, List.nodup_cons] at hu
      simp only [bne_iff_ne, ne_eq]
      intro e
      have := List.mem_map_of_mem (f := Prod.fst) hy; rw [e] at this; exact hu.1 this
    rw [hft] at hdp
    refine ⟨j, hj, hf, by omega, by omega, h.hp.drop _, ?_, ?_, ?_⟩
    · have := h.len
      rw [hdp.length_eq]
      simp at this
      omega
    · exact fun y hy => h.mem y (List.mem_cons_of_mem _ (hdp.mem_iff.1 hy))
    · intro y hy
      have hy' := hdp.mem_iff.1 hy
      have h1 := h.hp.head y (List.mem_cons_of_mem _ hy')
      rw [ltE_iff]
      rw [ltE_no] at h1
      dsimp only at h1 ⊢
      have hne : y.1 ≠ (j : Int) := by
        have hu := h.hp.uniq
        unfold Uniq at hu
        rw [List.map_cons, List.nodup_cons] at hu
        intro e
        have := List.mem_map_of_mem (f := Prod.fst) hy'; rw [e] at this; exact hu.1 this
      omega
theorem Ord.ends {l : List Int} {last time : Int} {p : List En} (h : Ord l l.length last time p) : p = [] := List.eq_nil_of_length_eq_zero (by have := h.len; omega)
end Go.Proofs.Ytebmhjiogomheaa.Hand
