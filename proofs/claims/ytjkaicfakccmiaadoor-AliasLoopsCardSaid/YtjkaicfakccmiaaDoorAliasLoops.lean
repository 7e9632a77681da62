/- AliasLoops, for every input. -/
import Derived.Test.YtjkaicfakccmiaaDoorAliasNames
import Derived.Test.YtjkaicfakccmiaaDoorPCx3
namespace Go.Proofs.YtjkaicfakccmiaaDoor.Addr
open Go.RowKit Go.Proofs.YtjkaicfakccmiaaDoor.PC Go.Proofs.YtjkaicfakccmiaaDoor.PB Go.Proofs.YtjkaicfakccmiaaDoorW.PrintWords Go.Proofs.YtjkaicfakccmiaaDoorW.PrintLast Go.Proofs.YtjkaicfakccmiaaDoorW.PrintMore Go.Proofs.YtjkaicfakccmiaaDoor.Hand
set_option linter.unusedVariables false
theorem hasS_iff (s : ByteArray) (l : List ByteArray) : hasS s l = true ↔ s ∈ l := by
  unfold hasS
  rw [List.any_eq_true]
  constructor
  · rintro ⟨x, h1, h2⟩
    exact of_decide_eq_true h2 ▸ h1
  · intro h
    exact ⟨s, h, decide_eq_true rfl⟩
abbrev nm (i : Nat) : ByteArray := tagB 97 120 i
abbrev tn (i : Nat) : ByteArray := tagB 116 121 i
def lin (n j i : Nat) : AliasS := ⟨nm (i % n), [nm ((i + 1) % n), nm ((i + j) % n), tn i]⟩
def ring (n j m : Nat) : List AliasS := (List.range m).map (lin n j)
/-- The walk round the ring, over numbers alone. -/
def dfs (n j : Nat) : Nat → List Nat × List Nat → Nat → Option (List Nat × List Nat)
  | 0, _, _ => none
  | k + 1, st, i =>
    if st.1.length ≤ 40 ∧ st.2.length ≤ 40 then
      if st.1.contains i = true then some st
      else (dfs n j k (i :: st.1, st.2) ((i + 1) % n)).bind fun st => (dfs n j k st ((i + j) % n)).bind fun st =>
        if st.1.length ≤ 40 ∧ st.2.length ≤ 40 then some (st.1, if st.2.contains i = true then st.2 else st.2 ++ [i]) else none
    else none
theorem step_eq {n j a : Nat} (hj : j < n) (ha : a ≤ n) : (j + a) % n = if j + a < n then j + a else j + a - n := by
  split
  · exact Nat.mod_eq_of_lt ‹_›
  · rw [Nat.mod_eq_sub_mod (by omega), Nat.mod_eq_of_lt (by omega)]
def vis (n j : Nat) : Nat → List Nat
  | 0 => []
  | m + 1 => (j + m) % n :: vis n j m
def outs (n j : Nat) : Nat → List Nat
  | 0 => []
  | d + 1 => outs n j d ++ [(j + (n - (d + 1))) % n]
theorem vis_len (n j m : Nat) : (vis n j m).length = m := by
  induction m with
  | zero => rfl
  | succ m ih => rw [vis, List.length_cons, ih]
theorem outs_len (n j d : Nat) : (outs n j d).length = d := by
  induction d with
  | zero => rfl
  | succ d ih => rw [outs, List.length_append, ih, List.length_singleton]
theorem vis_mem (n j m x : Nat) : x ∈ vis n j m ↔ ∃ a, a < m ∧ x = (j + a) % n := by
  induction m with
  | zero => simp [vis]
  | succ m ih =>
    rw [vis, List.mem_cons, ih]
    constructor
    · rintro (h | ⟨a, h1, h2⟩)
      · exact ⟨m, by omega, h⟩
      · exact ⟨a, by omega, h2⟩
    · rintro ⟨a, h1, h2⟩
      by_cases e : a = m
      · exact .inl (e ▸ h2)
      · exact .inr ⟨a, by omega, h2⟩
theorem outs_mem (n j d x : Nat) (h : x ∈ outs n j d) : ∃ a, a < d ∧ x = (j + (n - (a + 1))) % n := by
  induction d with
  | zero => simp [outs] at h
  | succ d ih =>
    rw [outs, List.mem_append, List.mem_singleton] at h
    rcases h with h | h
    · obtain ⟨a, h1, h2⟩ := ih h
      exact ⟨a, by omega, h2⟩
    · exact ⟨d, by omega, h⟩
theorem vis_all {n j x : Nat} (hj : j < n) (hx : x < n) : x ∈ vis n j n := by
  rw [vis_mem]
  by_cases h : j ≤ x
  · exact ⟨x - j, by omega, by rw [step_eq hj (by omega), if_pos (by omega)]; omega⟩
  · exact ⟨x + n - j, by omega, by rw [step_eq hj (by omega), if_neg (by omega)]; omega⟩
theorem dfs_go {n j : Nat} (hn : n ≤ 40) (hj : j < n) : ∀ (d m : Nat), n - m = d → m ≤ n → ∀ k, d < k → dfs n j k (vis n j m, []) ((j + m) % n) = some (vis n j n, outs n j d) := by
  intro d
  induction d with
  | zero =>
    intro m hd hm k hk
    obtain rfl : m = n := by omega
    obtain ⟨k, rfl⟩ : ∃ k', k = k' + 1 := ⟨k - 1, by omega⟩
    rw [dfs, if_pos (by show (vis m j m).length ≤ 40 ∧ ([] : List Nat).length ≤ 40; rw [vis_len]; exact ⟨hn, by simp⟩), if_pos]
    · rfl
    · exact List.contains_iff_mem.2 (vis_all hj (Nat.mod_lt _ (by omega)))
  | succ d ih =>
    intro m hd hm k hk
    obtain ⟨k, rfl⟩ : ∃ k', k = k' + 1 := ⟨k - 1, by omega⟩
    have h1 : ¬ (vis n j m).contains ((j + m) % n) = true := by
      rw [List.contains_iff_mem, vis_mem]
      rintro ⟨a, ha, h⟩
      rw [step_eq hj (by omega), step_eq hj (by omega)] at h
      split at h <;> split at h <;> omega
    have hnext : ((j + m) % n + 1) % n = (j + (m + 1)) % n := by rw [Nat.mod_add_mod]; rfl
    have hvis : (j + m) % n :: vis n j m = vis n j (m + 1) := rfl
    obtain ⟨q, rfl⟩ : ∃ q, k = q + 1 := ⟨k - 1, by omega⟩
    have h3 : dfs n j (q + 1) (vis n j n, outs n j d) (((j + m) % n + j) % n) = some (vis n j n, outs n j d) := by
      rw [dfs, if_pos (by show (vis n j n).length ≤ 40 ∧ (outs n j d).length ≤ 40; rw [vis_len, outs_len]; omega), if_pos]
      exact List.contains_iff_mem.2 (vis_all hj (Nat.mod_lt _ (by omega)))
    have h4 : ¬ (outs n j d).contains ((j + m) % n) = true := by
      rw [List.contains_iff_mem]
      intro h
      obtain ⟨a, ha, h⟩ := outs_mem n j d _ h
      rw [step_eq hj (by omega), step_eq hj (by omega)] at h
      split at h <;> split at h <;> omega
    rw [dfs, if_pos (by show (vis n j m).length ≤ 40 ∧ ([] : List Nat).length ≤ 40; rw [vis_len]; exact ⟨by omega, by simp⟩), if_neg h1, hnext, hvis, ih (m + 1) (by omega) (by omega) (q + 1) (by omega), Option.bind_some, h3, Option.bind_some, if_pos (by show (vis n j n).length ≤ 40 ∧ (outs n j d).length ≤ 40; rw [vis_len, outs_len]; omega)]
    show some (vis n j n, if (outs n j d).contains ((j + m) % n) = true then _ else outs n j d ++ [(j + m) % n]) = _
    rw [if_neg h4, outs]
    have : n - (d + 1) = m := by omega
    rw [this]
theorem dfs_all (n : Nat) (hn : n < 40) (j : Nat) (hj : j < n + 1) : ∃ st, dfs (n + 1) j 60 ([], []) j = some st ∧ st.2.length = n + 1 := by
  have h := dfs_go (n := n + 1) (j := j) (by omega) hj (n + 1) 0 rfl (Nat.zero_le _) 60 (by omega)
  have e0 : (j + 0) % (n + 1) = j := Nat.mod_eq_of_lt hj
  rw [e0] at h
  exact ⟨_, h, outs_len _ _ _⟩
theorem ring_len (n j m : Nat) : (ring n j m).length = m := by simp [ring]
theorem ring_succ (n j m : Nat) : ring n j (m + 1) = ring n j m ++ [lin n j m] := by
  unfold ring
  rw [List.range_succ, List.map_append]
  rfl
theorem ring_mod (n j m : Nat) : ring n j m = ring n (j % n) m := by
  unfold ring lin
  refine List.map_congr_left fun i _ => ?_
  rw [Nat.add_mod_mod]
theorem alAt_no (d : ByteArray) (l : List AliasS) (h : ∀ a ∈ l, a.f0 ≠ d) : alAt d l = none := by
  induction l with
  | nil => rfl
  | cons a l ih => rw [alAt, if_neg (h a List.mem_cons_self), ih (fun x hx => h x (List.mem_cons_of_mem _ hx))]; rfl
theorem ring_get (n j m i : Nat) (hi : i < m) : (ring n j m)[i]'(by rw [ring_len]; exact hi) = lin n j i := by simp [ring]
theorem ring_take (n j m i : Nat) (hi : i ≤ m) : (ring n j m).take i = ring n j i := by
  unfold ring
  rw [← List.map_take, List.take_range, Nat.min_eq_left hi]
theorem ring_at (n j i : Nat) (hn : n ≤ 40) (hi : i < n) : alAt (nm i) (ring n j n) = some i := by
  refine alAt_hit _ _ i (by rw [ring_len]; exact hi) ?_ ?_
  · rw [ring_take n j n i (by omega)]
    refine alAt_no _ _ fun a ha h => ?_
    obtain ⟨q, hq, rfl⟩ := List.mem_map.1 ha
    have h1 := List.mem_range.1 hq
    have h2 : nm (q % n) = nm i := h
    rw [Nat.mod_eq_of_lt (by omega)] at h2
    have := tag_inj (by omega) (by omega) h2
    omega
  · rw [ring_get n j n i hi]
    show nm (i % n) = nm i
    rw [Nat.mod_eq_of_lt hi]
theorem ring_leaf (n j i : Nat) : alAt (tn i) (ring n j n) = none := by
  refine alAt_no _ _ fun a ha h => ?_
  obtain ⟨q, _, rfl⟩ := List.mem_map.1 ha
  exact tag_other (by decide) h
theorem has_map (c d : UInt8) (n i : Nat) (hn : n ≤ 40) (hi : i < n) (v : List Nat) (hv : ∀ x ∈ v, x < n) : hasS (tagB c d i) (v.map (tagB c d)) = v.contains i := by
  rw [Bool.eq_iff_iff, hasS_iff, List.contains_iff_mem, List.mem_map]
  constructor
  · rintro ⟨x, h1, h2⟩
    have := tag_inj (by have := hv x h1; omega) (by omega) h2
    exact this ▸ h1
  · exact fun h => ⟨i, h, rfl⟩
theorem ring_open (n j : Nat) (hn : n ≤ 40) (hn0 : 0 < n) : ∀ (k : Nat) (v o : List Nat) (i : Nat) (r : List Nat × List Nat), i < n → (∀ x ∈ v, x < n) → (∀ x ∈ o, x < n) → dfs n j k (v, o) i = some r →
    openO (ring n j n) k (v.map nm, o.map tn) (nm i) = some (r.1.map nm, r.2.map tn) ∧ (∀ x ∈ r.1, x < n) ∧ (∀ x ∈ r.2, x < n) := by
  intro k
  induction k with
  | zero => intro v o i r _ _ _ h; cases h
  | succ k ih =>
    intro v o i r hi hv ho h
    rw [dfs] at h
    split at h
    case isFalse => cases h
    rename_i hg
    have hgl : v.length ≤ 40 ∧ o.length ≤ 40 := hg
    have hsz : (nm i).size ≤ 5 := tag_size 97 120 i (by omega)
    have hsz2 : (tagB 97 120 i).size ≤ 5 := hsz
    rw [openO, canB_eq _ (by omega), can_a i (by omega), Option.bind_some, if_pos ⟨.inr (by omega), by rw [List.length_map]; omega, by rw [List.length_map]; omega⟩, ring_at n j i hn hi]
    show (if hasS (nm i) (v.map nm) = true then _ else if ((ring n j n).getD i zAlias).f1.length ≤ 1000000 then ((ring n j n).getD i zAlias).f1.foldlM (fun st x => openO (ring n j n) k st x) (nm i :: v.map nm, o.map tn) else none) = _ ∧ _
    rw [has_map 97 120 n i hn hi v hv]
    by_cases hc : v.contains i = true
    · rw [if_pos hc] at h ⊢
      injection h with h
      subst h
      exact ⟨rfl, hv, ho⟩
    · rw [if_neg hc] at h ⊢
      have hget : (ring n j n).getD i zAlias = lin n j i := by
        rw [List.getD_eq_getElem?_getD, List.getElem?_eq_getElem (by rw [ring_len]; exact hi), ring_get n j n i hi]
        rfl
      rw [hget]
      show (if (3 : Nat) ≤ 1000000 then (lin n j i).f1.foldlM (fun st x => openO (ring n j n) k st x) (nm i :: v.map nm, o.map tn) else none) = _ ∧ _
      rw [if_pos (by omega)]
      obtain ⟨⟨v1, o1⟩, h1, h⟩ := Option.bind_eq_some_iff.1 h
      obtain ⟨⟨v2, o2⟩, h2, h⟩ := Option.bind_eq_some_iff.1 h
      obtain ⟨a1, b1, c1⟩ := ih (i :: v) o ((i + 1) % n) _ (Nat.mod_lt _ hn0) (fun x hx => (List.mem_cons.1 hx).elim (fun e => e ▸ hi) (fun e => hv x e)) ho h1
      obtain ⟨a2, b2, c2⟩ := ih v1 o1 ((i + j) % n) _ (Nat.mod_lt _ hn0) b1 c1 h2
      split at h
      case isFalse => cases h
      rename_i hg2
      have hgl2 : v2.length ≤ 40 ∧ o2.length ≤ 40 := hg2
      injection h with h
      subst h
      cases k with
      | zero => cases h1
      | succ k =>
        have hs3 : (tn i).size ≤ 5 := tag_size 116 121 i (by omega)
        have a3 := open_none (ring n j n) k (v2.map nm) (o2.map tn) (tn i) (by omega) (by rw [can_t i (by omega)]; exact ring_leaf n j i) (by rw [List.length_map]; omega) (by rw [List.length_map]; omega)
        unfold addO at a3
        rw [can_t i (by omega), has_map 116 121 n i hn hi o2 c2] at a3
        refine ⟨?_, b2, ?_⟩
        · show [nm ((i + 1) % n), nm ((i + j) % n), tn i].foldlM (fun st x => openO (ring n j n) (k + 1) st x) ((i :: v).map nm, o.map tn) = _
          rw [List.foldlM_cons, a1]
          show [nm ((i + j) % n), tn i].foldlM (fun st x => openO (ring n j n) (k + 1) st x) (v1.map nm, o1.map tn) = _
          rw [List.foldlM_cons, a2]
          show [tn i].foldlM (fun st x => openO (ring n j n) (k + 1) st x) (v2.map nm, o2.map tn) = _
          rw [List.foldlM_cons, a3]
          show some _ = some _
          congr 2
          by_cases hc2 : o2.contains i = true
          · rw [if_pos hc2, if_pos hc2]
          · rw [if_neg hc2, if_neg hc2, List.map_append]
            rfl
        · intro x hx
          dsimp only at hx
          split at hx
          · exact c2 x hx
          · rcases List.mem_append.1 hx with hx | hx
            · exact c2 x hx
            · rw [List.mem_singleton.1 hx]
              exact hi
theorem ring_expand (n j : Nat) (hn : n ≤ 40) (hn0 : 0 < n) (l1 : List S96) (l2 : List S98) (z : Int) : ∃ r : List ByteArray, r.length = n ∧ Ev (fun k => Hand.alias_Expand.f k (ring n j n) l1 l2 z [nm (j % n)]) r := by
  obtain ⟨m, rfl⟩ : ∃ m, n = m + 1 := ⟨n - 1, by omega⟩
  obtain ⟨⟨v, o⟩, hd, hl⟩ := dfs_all m (by omega) (j % (m + 1)) (Nat.mod_lt _ hn0)
  have hl' : o.length = m + 1 := hl
  have h := (ring_open (m + 1) (j % (m + 1)) hn hn0 60 [] [] (j % (m + 1)) _ (Nat.mod_lt _ hn0) (by simp) (by simp) hd).1
  refine ⟨(o.map tn).take 50, by rw [List.length_take, List.length_map]; omega, Ev.of (k := 60) (fun k => Hand.alias_Expand.mono _ _ _ _ _ k) ?_⟩
  unfold Hand.alias_Expand.f expandO
  rw [if_pos ⟨by rw [ring_len]; omega, by simp⟩, ring_mod, List.foldlM_cons]
  have h' : openO (ring (m + 1) (j % (m + 1)) (m + 1)) 60 ([], []) (nm (j % (m + 1))) = some (v.map nm, o.map tn) := h
  rw [h']
  show (if (o.map tn).length ≤ 1000000 then some ((o.map tn).take 50) else none) = _
  rw [if_pos (by rw [List.length_map]; omega)]
theorem name_ev (i n : Nat) (hn : n ≤ 40) (hn0 : 0 < n) : Ev (fun k => estafettelaw16_name.f k (i : Int) (n : Int)) (nm (i % n)) := by
  have hm := Nat.mod_lt i hn0
  have hs := dS_size (i % n) (by omega)
  have ht : Int.tmod (i : Int) (n : Int) = ((i % n : Nat) : Int) := by rw [Int.tmod_eq_emod_of_nonneg (by omega)]; exact (Int.natCast_emod i n).symm
  simp only [estafettelaw16_name.f, ht]
  exact ev_neg (by omega) (Ev.bind (dec_ev (i % n) (by omega)) (ev_pos (by omega) (ev_pos (by rw [ByteArray.size_append]; show 1 + (dS (i % n)).size + 2 ≤ _; omega) (ev_now rfl))))
theorem loops_loop (n j : Nat) (hn : n ≤ 40) (hn0 : 0 < n) (hj : j < 256) (z : Int) : ∀ (d i : Nat), n - i = d → i ≤ n → Ev (fun k => estafettelaw16_AliasLoops.l0 k (j : Int) (n : Int) (i : Int) (ring n j i) z) true := by
  have hwj : wrap64 (j : Int) = (j : Int) := Go.IntWalk.wrap64_in _ (by omega)
  intro d
  induction d with
  | zero =>
    intro i hd hi
    obtain rfl : i = n := by omega
    obtain ⟨r, hr, he⟩ := ring_expand i j hn hn0 ([] : List S96) ([] : List S98) z
    refine Ev_succ ?_
    simp only [estafettelaw16_AliasLoops.l0, hwj]
    refine ev_neg (by omega) (Ev.bind (name_ev j i hn hn0) (Ev.bind he (Ev.bind answers_ev (ev_pos rfl (ev_now ?_)))))
    rw [hr]
    simp
  | succ d ih =>
    intro i hd hi
    have hs := dS_size i (by omega)
    have hwi : wrap64 ((i : Int) + (j : Int)) = ((i + j : Nat) : Int) := by rw [Go.IntWalk.wrap64_in _ (by omega)]; omega
    refine Ev_succ ?_
    simp only [estafettelaw16_AliasLoops.l0, hwj, hwi, (w_succ i (by omega)).out]
    refine ev_pos (by omega) (Ev.bind (name_ev i n hn hn0) (Ev.bind (name_ev (i + 1) n hn hn0) (Ev.bind (name_ev (i + j) n hn hn0) (Ev.bind (dec_ev i (by omega)) ?_))))
    refine ev_pos (by omega) (ev_pos (by rw [ByteArray.size_append]; show 1 + (dS i).size + 2 ≤ _; omega) (ev_pos (by rw [ring_len]; omega) ?_))
    have := ih (i + 1) (by omega) (by omega)
    rw [ring_succ] at this
    exact this
theorem AliasLoops (a0 a1 : Int) (h0 : 0 ≤ a0 ∧ a0 < 256) (h1 : 0 ≤ a1 ∧ a1 < 256) : ∃ k, estafettelaw16_AliasLoops.f k a0 a1 = some true := by
  refine Ev.rounds ?_
  simp only [estafettelaw16_AliasLoops.f]
  have e0 : wrap64 (wrap64 (Int.tmod a0 40) + 1) = ((a0.toNat % 40 + 1 : Nat) : Int) := by
    have : Int.tmod a0 40 = ((a0.toNat % 40 : Nat) : Int) := by rw [Int.tmod_eq_emod_of_nonneg h0.1]; omega
    rw [this, Go.IntWalk.wrap64_in ((a0.toNat % 40 : Nat) : Int) (by omega), Go.IntWalk.wrap64_in _ (by omega)]
    omega
  obtain ⟨j, rfl⟩ : ∃ j : Nat, a1 = (j : Int) := ⟨a1.toNat, by omega⟩
  rw [e0]
  exact loops_loop (a0.toNat % 40 + 1) j (by omega) (by omega) (by omega) 0 (a0.toNat % 40 + 1) 0 rfl (Nat.zero_le _)
end Go.Proofs.YtjkaicfakccmiaaDoor.Addr
