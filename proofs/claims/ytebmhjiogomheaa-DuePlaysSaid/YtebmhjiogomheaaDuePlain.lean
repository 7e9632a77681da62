/- The order of what is due, and what a pile's turns leave, as plain data. -/
import Derived.Test.YtebmhjiogomheaaDueSort
namespace Go.Proofs.Ytebmhjiogomheaa.Hand
open Go.RowKit Go.Sort
set_option linter.unusedVariables false
set_option linter.unusedSimpArgs false
theorem ltE_iff (x y : En) : ltE x y = true ↔ (x.2 < y.2 ∨ (x.2 = y.2 ∧ x.1 < y.1)) := by unfold ltE; rw [decide_eq_true_iff]
theorem ltE_no (x y : En) : ltE x y = false ↔ ¬ (x.2 < y.2 ∨ (x.2 = y.2 ∧ x.1 < y.1)) := by unfold ltE; rw [decide_eq_false_iff_not]
theorem ltE_irrefl (x : En) : ltE x x = false := by rw [ltE_no]; omega
theorem ltE_trans {x y z : En} (h : ltE x y = true) (k : ltE y z = true) : ltE x z = true := by rw [ltE_iff] at *; omega
theorem ltE_ntrans {x y z : En} (h : ltE x y = false) (k : ltE y z = false) : ltE x z = false := by rw [ltE_no] at *; omega
theorem ltE_asymm {x y : En} (h : ltE x y = true) : ltE y x = false := by rw [ltE_iff] at h; rw [ltE_no]; omega
theorem ltE_eq {x y : En} (h : ltE x y = false) (k : ltE y x = false) : x = y := by
  rw [ltE_no] at h k
  exact Prod.ext (by omega) (by omega)
theorem swoE : SWO (ltOf cmpE) where
  irrefl x := by show decide (cmpE x x < 0) = false; rw [cmpE_lt]; exact ltE_irrefl x
  trans x y z h k := by
    have h' : decide (cmpE x y < 0) = true := h
    have k' : decide (cmpE y z < 0) = true := k
    show decide (cmpE x z < 0) = true
    rw [cmpE_lt] at *
    exact ltE_trans h' k'
  ntrans x y z h k := by
    have h' : decide (cmpE x y < 0) = false := h
    have k' : decide (cmpE y z < 0) = false := k
    show decide (cmpE x z < 0) = false
    rw [cmpE_lt] at *
    exact ltE_ntrans h' k'
/-- No child is due ahead of its parent. -/
def HeapE (p : List En) : Prop := ∀ k, 0 < k → k < p.length → ltE (getE p k) (getE p ((k - 1) / 2)) = false
theorem HeapE.least {p : List En} (h : HeapE p) : ∀ k, k < p.length → ltE (getE p k) (getE p 0) = false := by
  intro k
  induction k using Nat.strongRecOn with
  | _ k ih =>
    intro hk
    by_cases h0 : k = 0
    · subst h0
      exact ltE_irrefl _
    · exact ltE_ntrans (h k (by omega) hk) (ih ((k - 1) / 2) (by omega) (by omega))
theorem getE_swp (p : List En) (i j : Nat) (hi : i < p.length) (hj : j < p.length) (k : Nat) : getE (swpE p i j) k = if k = j then getE p i else if k = i then getE p j else getE p k := by
  unfold swpE
  rw [dif_pos hi, dif_pos hj]
  unfold getE
  simp only [List.getD_eq_getElem?_getD]
  by_cases h1 : k = j
  · subst h1
    rw [if_pos rfl]
    simp [List.getElem?_set, hj, hi]
  · rw [if_neg h1]
    have h1' : ¬ j = k := fun h => h1 h.symm
    by_cases h2 : k = i
    · subst h2
      rw [if_pos rfl]
      simp [List.getElem?_set, hj, hi, h1']
    · have h2' : ¬ i = k := fun h => h2 h.symm
      rw [if_neg h2]
      simp [List.getElem?_set, h1', h2']
/-- The first m are a heap. -/
def HeapN (p : List En) (m : Nat) : Prop := ∀ k, 0 < k → k < m → ltE (getE p k) (getE p ((k - 1) / 2)) = false
/-- A heap but for what may have to rise from j. -/
def HoleU (p : List En) (j m : Nat) : Prop := (∀ k, 0 < k → k < m → k ≠ j → ltE (getE p k) (getE p ((k - 1) / 2)) = false) ∧ ∀ k, 0 < k → k < m → (k - 1) / 2 = j → 0 < j → ltE (getE p k) (getE p ((j - 1) / 2)) = false
theorem up_heap (m : Nat) : ∀ (n : Nat) (p : List En) (j : Nat), j < m → m ≤ p.length → j ≤ n → HoleU p j m → HeapN (upF n p j) m
  | 0, p, j, hj, hm, hn, h => fun k h0 hk => h.1 k h0 hk (by omega)
  | n + 1, p, j, hj, hm, hn, h => by
    rw [upF_succ]
    by_cases h0 : j = 0
    · rw [if_pos h0]
      exact fun k hk0 hk => h.1 k hk0 hk (by omega)
    · rw [if_neg h0]
      obtain ⟨q, hq⟩ : ∃ q, q = (j - 1) / 2 := ⟨_, rfl⟩
      rw [← hq]
      have hqj : q < j := by omega
      by_cases hlt : ltE (getE p j) (getE p q) = true
      · rw [if_pos hlt]
        refine up_heap m n _ q (by omega) (by rw [swpE_len]; exact hm) (by omega) ⟨fun k hk0 hk hkq => ?_, fun k hk0 hk hkq hq0 => ?_⟩
        · rw [getE_swp p q j (by omega) (by omega), getE_swp p q j (by omega) (by omega)]
          by_cases e1 : k = j
          · subst e1
            rw [if_pos rfl, ← hq, if_neg (by omega), if_pos rfl]
            exact ltE_asymm hlt
          · rw [if_neg e1, if_neg hkq]
            have h1 := h.1 k hk0 hk e1
            by_cases e2 : (k - 1) / 2 = j
            · rw [if_pos e2]
              have := h.2 k hk0 hk e2 (by omega)
              rw [← hq] at this
              exact this
            · rw [if_neg e2]
              by_cases e3 : (k - 1) / 2 = q
              · rw [if_pos e3]
                rw [e3] at h1
                cases hc : ltE (getE p k) (getE p j) with
                | false => rfl
                | true => rw [ltE_trans hc hlt] at h1; cases h1
              · rw [if_neg e3]
                exact h1
        · rw [getE_swp p q j (by omega) (by omega), getE_swp p q j (by omega) (by omega)]
          rw [if_neg (show ¬ (q - 1) / 2 = j by omega), if_neg (show ¬ (q - 1) / 2 = q by omega)]
          have hqp := h.1 q hq0 (by omega) (by omega)
          by_cases e1 : k = j
          · rw [if_pos e1]
            exact hqp
          · rw [if_neg e1, if_neg (by omega)]
            have h1 := h.1 k hk0 hk e1
            rw [hkq] at h1
            exact ltE_ntrans h1 hqp
      · rw [if_neg hlt]
        intro k hk0 hk
        by_cases e1 : k = j
        · subst e1
          rw [← hq]
          cases hc : ltE (getE p k) (getE p q) with
          | false => rfl
          | true => exact absurd hc hlt
        · exact h.1 k hk0 hk e1
theorem getE_app (p : List En) (e : En) (k : Nat) : getE (p ++ [e]) k = if k = p.length then e else getE p k := by
  unfold getE
  simp only [List.getD_eq_getElem?_getD, List.getElem?_append]
  by_cases h : k < p.length
  · rw [if_pos h, if_neg (by omega)]
  · rw [if_neg h]
    by_cases h2 : k = p.length
    · subst h2
      simp
    · rw [if_neg h2, List.getElem?_eq_none (by simp; omega), List.getElem?_eq_none (by omega)]
theorem push_heap {p : List En} (h : HeapE p) (e : En) : HeapE (upF (p.length + 1) (p ++ [e]) p.length) := by
  have hl : (p ++ [e]).length = p.length + 1 := by rw [List.length_append, List.length_singleton]
  have := up_heap (p.length + 1) (p.length + 1) (p ++ [e]) p.length (by omega) (by omega) (by omega) ⟨fun k h0 hk hne => ?_, fun k h0 hk hp hj => ?_⟩
  · intro k hk0 hk
    rw [upF_len, hl] at hk
    exact this k hk0 hk
  · rw [getE_app, getE_app, if_neg hne, if_neg (by omega)]
    exact h k h0 (by omega)
  · omega
theorem swpE_perm (p : List En) (i j : Nat) : (swpE p i j).Perm p := by
  unfold swpE
  split
  · split
    · rename_i hi hj
      exact List.set_set_perm hi hj
    · exact List.Perm.refl _
  · exact List.Perm.refl _
theorem upF_perm : ∀ (n : Nat) (p : List En) (j : Nat), (upF n p j).Perm p
  | 0, p, _ => List.Perm.refl _
  | n + 1, p, j => by
    rw [upF_succ]
    split
    · exact List.Perm.refl _
    · split
      · exact (upF_perm n _ _).trans (swpE_perm _ _ _)
      · exact List.Perm.refl _
theorem downF_perm : ∀ (n : Nat) (p : List En) (i m : Nat), (downF n p i m).1.Perm p
  | 0, p, _, _ => List.Perm.refl _
  | n + 1, p, i, m => by
    rw [downF_succ]
    split
    · exact List.Perm.refl _
    · split
      · exact (downF_perm n _ _ _).trans (swpE_perm _ _ _)
      · exact List.Perm.refl _
/-- A heap of the first m but for what may have to sink, or to rise, from i. -/
def HoleD (p : List En) (i m : Nat) : Prop := (∀ k, 0 < k → k < m → k ≠ i → (k - 1) / 2 ≠ i → ltE (getE p k) (getE p ((k - 1) / 2)) = false) ∧ ∀ k, 0 < k → k < m → (k - 1) / 2 = i → 0 < i → ltE (getE p k) (getE p ((i - 1) / 2)) = false
theorem kid_facts (p : List En) (i m : Nat) (h : 2 * i + 1 < m) : kidE p i m < m ∧ (kidE p i m - 1) / 2 = i ∧ i < kidE p i m ∧ ∀ k, 0 < k → k < m → (k - 1) / 2 = i → ltE (getE p k) (getE p (kidE p i m)) = false := by
  unfold kidE
  split
  · rename_i hc
    refine ⟨hc.1, by omega, by omega, fun k h0 hk hp => ?_⟩
    rcases (show k = 2 * i + 1 ∨ k = 2 * i + 2 by omega) with e | e
    · rw [e]; exact ltE_asymm hc.2
    · rw [e]; exact ltE_irrefl _
  · rename_i hc
    refine ⟨h, by omega, by omega, fun k h0 hk hp => ?_⟩
    rcases (show k = 2 * i + 1 ∨ k = 2 * i + 2 by omega) with e | e
    · rw [e]; exact ltE_irrefl _
    · rw [e]
      cases hb : ltE (getE p (2 * i + 2)) (getE p (2 * i + 1)) with
      | false => rfl
      | true => exact absurd ⟨by omega, hb⟩ hc
theorem down_heap (m : Nat) : ∀ (n : Nat) (p : List En) (i : Nat), i < m → m ≤ p.length → m ≤ n + i → HoleD p i m →
    ((downF n p i m).2 = i ∧ (downF n p i m).1 = p ∧ HoleU p i m) ∨ (i < (downF n p i m).2 ∧ HeapN (downF n p i m).1 m)
  | 0, p, i, hi, hm, hn, h => by omega
  | n + 1, p, i, hi, hm, hn, h => by
    rw [downF_succ]
    by_cases h0 : m ≤ 2 * i + 1
    · rw [if_pos h0]
      exact .inl ⟨rfl, rfl, fun k hk0 hk hne => h.1 k hk0 hk hne (by omega), h.2⟩
    · rw [if_neg h0]
      obtain ⟨hc1, hc2, hc3, hc4⟩ := kid_facts p i m (by omega)
      obtain ⟨c, hc⟩ : ∃ c, c = kidE p i m := ⟨_, rfl⟩
      rw [← hc] at hc1 hc2 hc3 hc4 ⊢
      by_cases hlt : ltE (getE p c) (getE p i) = true
      · rw [if_pos hlt]
        have hsw : ∀ k, getE (swpE p i c) k = if k = c then getE p i else if k = i then getE p c else getE p k := getE_swp p i c (by omega) (by omega)
        right
        have hd : HoleD (swpE p i c) c m := by
          refine ⟨fun k hk0 hk hne hpne => ?_, fun k hk0 hk hp hc0 => ?_⟩
          · rw [hsw, hsw, if_neg hne, if_neg hpne]
            by_cases e1 : k = i
            · rw [if_pos e1, if_neg (by omega), e1]
              exact h.2 c (by omega) hc1 hc2 (by omega)
            · rw [if_neg e1]
              by_cases e2 : (k - 1) / 2 = i
              · rw [if_pos e2]
                exact hc4 k hk0 hk e2
              · rw [if_neg e2]
                exact h.1 k hk0 hk e1 e2
          · rw [hsw, hsw, hc2, if_neg (by omega), if_neg (by omega), if_neg (by omega), if_pos rfl]
            have := h.1 k hk0 hk (by omega) (by omega)
            rw [hp] at this
            exact this
        rcases down_heap m n (swpE p i c) c hc1 (by rw [swpE_len]; exact hm) (by omega) hd with ⟨e1, e2, e3⟩ | ⟨e1, e2⟩
        · refine ⟨by omega, fun k hk0 hk => ?_⟩
          rw [e2]
          by_cases e4 : k = c
          · rw [e4, hsw, hsw, hc2, if_pos rfl, if_neg (by omega), if_pos rfl]
            exact ltE_asymm hlt
          · exact e3.1 k hk0 hk e4
        · exact ⟨by omega, e2⟩
      · rw [if_neg hlt]
        have hlt' : ltE (getE p c) (getE p i) = false := by
          cases hb : ltE (getE p c) (getE p i) with
          | false => rfl
          | true => exact absurd hb hlt
        refine .inl ⟨rfl, rfl, fun k hk0 hk hne => ?_, h.2⟩
        by_cases e2 : (k - 1) / 2 = i
        · rw [e2]
          exact ltE_ntrans (hc4 k hk0 hk e2) hlt'
        · exact h.1 k hk0 hk hne e2
theorem getE_take (p : List En) (m k : Nat) (hk : k < m) : getE (p.take m) k = getE p k := by
  unfold getE
  simp only [List.getD_eq_getElem?_getD, List.getElem?_take]
  rw [if_pos hk]
theorem take_heap {p : List En} {m : Nat} (h : HeapN p m) : HeapE (p.take m) := by
  intro k h0 hk
  rw [List.length_take] at hk
  rw [getE_take _ _ _ (by omega), getE_take _ _ _ (by omega)]
  exact h k h0 (by omega)
theorem rm_heap {p : List En} (h : HeapE p) (i : Nat) (hi : i < p.length) : HeapE (rmF p i) := by
  unfold rmF
  split
  · rename_i he
    exact take_heap (fun k h0 hk => h k h0 (by omega))
  · rename_i he
    obtain ⟨m, hm⟩ : ∃ m, p.length = m + 1 := ⟨p.length - 1, by omega⟩
    rw [hm, show m + 1 - 1 = m from rfl]
    have him : i < m := by omega
    have hd : HoleD (swpE p i m) i m := by
      have hsw := getE_swp p i m hi (by omega)
      refine ⟨fun k h0 hk hne hp => ?_, fun k h0 hk hp hi0 => ?_⟩
      · rw [hsw, hsw, if_neg (by omega), if_neg hne, if_neg (by omega), if_neg hp]
        exact h k h0 (by omega)
      · rw [hsw, hsw, if_neg (by omega), if_neg (by omega), if_neg (by omega), if_neg (by omega)]
        have h1 := h k h0 (by omega)
        rw [hp] at h1
        exact ltE_ntrans h1 (h i hi0 hi)
    have hl : (swpE p i m).length = m + 1 := by rw [swpE_len]; exact hm
    rcases down_heap m m (swpE p i m) i him (by omega) (by omega) hd with ⟨e1, e2, e3⟩ | ⟨e1, e2⟩
    · rw [if_neg (by omega), e2]
      exact take_heap (up_heap m _ _ _ him (by omega) (by omega) e3)
    · rw [if_pos e1]
      exact take_heap e2
theorem upF_keep (k : Nat) : ∀ (n : Nat) (p : List En) (j : Nat), j < k → j < p.length → getE (upF n p j) k = getE p k
  | 0, _, _, _, _ => rfl
  | n + 1, p, j, hj, hl => by
    rw [upF_succ]
    split
    · rfl
    · split
      · rw [upF_keep k n _ _ (by omega) (by rw [swpE_len]; omega), getE_swp p _ _ (by omega) hl, if_neg (by omega), if_neg (by omega)]
      · rfl
theorem downF_keep (k m : Nat) (hk : m ≤ k) : ∀ (n : Nat) (p : List En) (i : Nat), i < m → m ≤ p.length → getE (downF n p i m).1 k = getE p k
  | 0, _, _, _, _ => rfl
  | n + 1, p, i, hi, hm => by
    rw [downF_succ]
    by_cases h0 : m ≤ 2 * i + 1
    · rw [if_pos h0]
    · rw [if_neg h0]
      obtain ⟨hc1, _, _, _⟩ := kid_facts p i m (by omega)
      split
      · rw [downF_keep k m hk n _ _ hc1 (by rw [swpE_len]; exact hm), getE_swp p _ _ (by omega) (by omega), if_neg (by omega), if_neg (by omega)]
      · rfl
theorem take_last {x : List En} {m : Nat} (h : x.length = m + 1) : (getE x m :: x.take m).Perm x := by
  have e : x = x.take m ++ [getE x m] := by
    have h1 := List.take_succ_eq_append_getElem (l := x) (i := m) (by omega)
    rw [List.take_of_length_le (by omega)] at h1
    rw [getE_at x m (by omega)]
    exact h1
  conv => rhs; rw [e]
  exact (List.perm_append_singleton _ _).symm
theorem rm_perm (p : List En) (i : Nat) (hi : i < p.length) : (getE p i :: rmF p i).Perm p := by
  unfold rmF
  split
  · rename_i he
    exact take_last he
  · rename_i he
    obtain ⟨m, hm⟩ : ∃ m, p.length = m + 1 := ⟨p.length - 1, by omega⟩
    rw [hm, show m + 1 - 1 = m from rfl]
    have him : i < m := by omega
    have hl : (swpE p i m).length = m + 1 := by rw [swpE_len]; exact hm
    have hd : (downF m (swpE p i m) i m).1.length = m + 1 := by rw [downF_len]; exact hl
    have hg : getE (swpE p i m) m = getE p i := by rw [getE_swp p i m hi (by omega), if_pos rfl]
    have hk1 : getE (downF m (swpE p i m) i m).1 m = getE p i := by rw [downF_keep m m (Nat.le_refl _) m _ _ him (by omega)]; exact hg
    have hp1 := (downF_perm m (swpE p i m) i m).trans (swpE_perm p i m)
    split
    · rw [← hk1]
      exact (take_last hd).trans hp1
    · have hk2 : getE (upF (m + 1) (downF m (swpE p i m) i m).1 i) m = getE p i := by rw [upF_keep m _ _ _ him (by rw [hd]; omega)]; exact hk1
      rw [← hk2]
      exact (take_last (by rw [upF_len]; exact hd)).trans ((upF_perm _ _ _).trans hp1)
/-- One entry an id. -/
def Uniq (p : List En) : Prop := (p.map Prod.fst).Nodup
theorem Uniq.perm {p p' : List En} (h : Uniq p) (k : p'.Perm p) : Uniq p' := (k.map Prod.fst).nodup_iff.2 h
theorem idx_at {id : Int} {p : List En} (h : idxN id p < p.length) : (getE p (idxN id p)).1 = id := by
  rw [getE_at _ _ h]
  have := List.findIdx_getElem (xs := p) (p := fun e : En => e.1 == id) (w := h)
  exact beq_iff_eq.1 this
theorem drop_heap {p : List En} (h : HeapE p) (id : Int) : HeapE (dropF p id) := by
  unfold dropF
  split
  · rename_i hi
    exact rm_heap h _ hi
  · exact h
/-- What stays when an id is dropped. -/
theorem drop_perm {p : List En} (h : Uniq p) (id : Int) : (dropF p id).Perm (p.filter (fun e => e.1 != id)) := by
  unfold dropF
  split
  · rename_i hi
    have hp := rm_perm p _ hi
    have hu := h.perm hp
    unfold Uniq at hu
    rw [List.map_cons, List.nodup_cons, idx_at hi] at hu
    have h1 := hp.filter (fun e => e.1 != id)
    rw [List.filter_cons, idx_at hi] at h1
    simp only [bne_self_eq_false, Bool.false_eq_true, if_false] at h1
    have h2 : (rmF p (idxN id p)).filter (fun e => e.1 != id) = rmF p (idxN id p) := by
      rw [List.filter_eq_self]
      intro e he
      rw [bne_iff_ne]
      intro hc
      have hm : e.1 ∈ (rmF p (idxN id p)).map Prod.fst := List.mem_map_of_mem he
      rw [hc] at hm
      exact hu.1 hm
    rw [h2] at h1
    exact h1
  · rename_i hi
    have h2 : p.filter (fun e => e.1 != id) = p := by
      rw [List.filter_eq_self]
      intro e he
      rw [bne_iff_ne]
      intro hc
      exact hi (List.findIdx_lt_length_of_exists ⟨e, he, by simp [hc]⟩)
    rw [h2]
theorem set_heap {p : List En} (h : HeapE p) (id t : Int) : HeapE (setF p id t) := push_heap (drop_heap h id) _
theorem set_perm {p : List En} (h : Uniq p) (id t : Int) : (setF p id t).Perm ((id, t) :: p.filter (fun e => e.1 != id)) := by
  unfold setF
  exact (upF_perm _ _ _).trans ((List.perm_append_singleton _ _).trans ((drop_perm h id).cons _))
theorem set_uniq {p : List En} (h : Uniq p) (id t : Int) : Uniq (setF p id t) := by
  refine Uniq.perm ?_ (set_perm h id t)
  unfold Uniq
  rw [List.map_cons, List.nodup_cons]
  refine ⟨fun hm => ?_, ?_⟩
  · obtain ⟨e, he, hc⟩ := List.mem_map.1 hm
    have := (List.mem_filter.1 he).2
    rw [bne_iff_ne] at this
    exact this hc
  · exact List.Nodup.sublist (List.Sublist.map _ List.filter_sublist) h
/-! ## A pile of one entry -/
theorem idx_one (i a : Int) : idxN i [(i, a)] = 0 := by
  unfold idxN
  rw [List.findIdx_cons]
  simp
theorem drop_one (i a : Int) : dropF [(i, a)] i = [] := by
  unfold dropF
  rw [idx_one, if_pos (by simp)]
  rfl
theorem set_none (i b : Int) : setF [] i b = [(i, b)] := rfl
theorem set_one (i a b : Int) : setF [(i, a)] i b = [(i, b)] := by
  unfold setF
  rw [drop_one]
  rfl
end Go.Proofs.Ytebmhjiogomheaa.Hand
