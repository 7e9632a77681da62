/- AliasMany, for every input. -/
import Derived.Test.YtjkaicfakccmiaaDoorAliasNames
import Derived.Test.YtjkaicfakccmiaaDoorPCx2
namespace Go.Proofs.YtjkaicfakccmiaaDoor.Addr
open Go.RowKit Go.Proofs.YtjkaicfakccmiaaDoor.PC Go.Proofs.YtjkaicfakccmiaaDoor.PB Go.Proofs.YtjkaicfakccmiaaDoorW.PrintWords Go.Proofs.YtjkaicfakccmiaaDoorW.PrintLast Go.Proofs.YtjkaicfakccmiaaDoorW.PrintMore Go.Proofs.YtjkaicfakccmiaaDoor.Hand
set_option linter.unusedVariables false
theorem hasS_mem (s : ByteArray) (l : List ByteArray) : hasS s l = true ↔ s ∈ l := by
  unfold hasS
  rw [List.any_eq_true]
  constructor
  · rintro ⟨x, h1, h2⟩
    exact of_decide_eq_true h2 ▸ h1
  · intro h
    exact ⟨s, h, decide_eq_true rfl⟩
theorem add_fresh : ∀ (l out : List ByteArray), (∀ s ∈ l, canB s = s) → (out ++ l).Nodup → l.foldl addO out = out ++ l := by
  intro l
  induction l with
  | nil => exact fun out _ _ => (List.append_nil _).symm
  | cons s l ih =>
    intro out h hn
    have hs := h s List.mem_cons_self
    have h1 : addO out s = out ++ [s] := by
      unfold addO
      rw [hs, if_neg]
      intro k
      exact (List.nodup_append.1 hn).2.2 s ((hasS_mem _ _).1 k) s List.mem_cons_self rfl
    rw [List.foldl_cons, h1, ih _ (fun x hx => h x (List.mem_cons_of_mem _ hx)) (by rw [List.append_assoc]; exact hn), List.append_assoc]
    rfl
def tags (c d : UInt8) (n : Nat) : List ByteArray := (List.range n).map (tagB c d)
theorem tags_len (c d : UInt8) (n : Nat) : (tags c d n).length = n := by simp [tags]
theorem tags_mem {c d : UInt8} {n : Nat} {s : ByteArray} (h : s ∈ tags c d n) : ∃ i, i < n ∧ s = tagB c d i := by
  obtain ⟨i, h1, h2⟩ := List.mem_map.1 h
  exact ⟨i, List.mem_range.1 h1, h2.symm⟩
theorem tags_succ (c d : UInt8) (n : Nat) : tags c d (n + 1) = tags c d n ++ [tagB c d n] := by
  unfold tags
  rw [List.range_succ, List.map_append]
  rfl
theorem tags_nodup (c d : UInt8) (n : Nat) (hn : n ≤ 80) : (tags c d n).Nodup := by
  unfold tags
  rw [List.Nodup, List.pairwise_map]
  refine List.pairwise_lt_range.imp_of_mem fun {a b} ha hb hlt h => ?_
  have h1 := List.mem_range.1 ha
  have h2 := List.mem_range.1 hb
  have := tag_inj (by omega) (by omega) h
  omega
theorem many_nodup (m r : Nat) (hm : m ≤ 80) (hr : r ≤ 30) : (tags 97 120 m ++ tags 98 120 r).Nodup := by
  refine List.nodup_append.2 ⟨tags_nodup _ _ _ hm, tags_nodup _ _ _ (by omega), fun a ha b hb h => ?_⟩
  obtain ⟨i, _, rfl⟩ := tags_mem ha
  obtain ⟨j, _, rfl⟩ := tags_mem hb
  exact tag_other (by decide) h
def oneA (m : Nat) : List AliasS := [⟨lxB, tags 97 120 m⟩]
theorem one_not {m : Nat} {s : ByteArray} (h : s ≠ lxB) : alAt s (oneA m) = none := by
  unfold oneA
  rw [alAt, if_neg (fun e => h e.symm)]
  rfl
theorem many_open (m r : Nat) (hm : m ≤ 80) (hr : r ≤ 30) (k : Nat) : ([lxB, lxB] ++ tags 98 120 r).foldlM (fun st x => openO (oneA m) (k + 2) st x) ([], []) = some ([lxB], tags 97 120 m ++ tags 98 120 r) := by
  have hat : alAt lxB (oneA m) = some 0 := by unfold oneA; rw [alAt, if_pos rfl]
  have hA := fold_none (oneA m) k [lxB] (by simp) (tags 97 120 m) [] (fun s hs => by
    obtain ⟨i, hi, rfl⟩ := tags_mem hs
    have := tag_size 97 120 i (by omega)
    exact ⟨by omega, by rw [can_a i (by omega)]; exact one_not (tag_l (by decide))⟩) (by rw [tags_len]; simp; omega)
  rw [add_fresh _ _ (fun s hs => by obtain ⟨i, hi, rfl⟩ := tags_mem hs; exact can_a i (by omega)) (by rw [List.nil_append]; exact tags_nodup _ _ _ hm), List.nil_append] at hA
  have hB := fold_none (oneA m) (k + 1) [lxB] (by simp) (tags 98 120 r) (tags 97 120 m) (fun s hs => by
    obtain ⟨i, hi, rfl⟩ := tags_mem hs
    have := tag_size 98 120 i (by omega)
    exact ⟨by omega, by rw [can_b i (by omega)]; exact one_not (tag_l (by decide))⟩) (by rw [tags_len, tags_len]; omega)
  rw [add_fresh _ _ (fun s hs => by obtain ⟨i, hi, rfl⟩ := tags_mem hs; exact can_b i (by omega)) (many_nodup m r hm hr)] at hB
  have h1 : openO (oneA m) (k + 2) ([], []) lxB = some ([lxB], tags 97 120 m) := by
    rw [openO, canB_eq _ (by decide), can_l, Option.bind_some, if_pos ⟨.inr (by decide), by simp, by simp⟩, hat]
    show (if hasS lxB [] = true then _ else if (tags 97 120 m).length ≤ 1000000 then (tags 97 120 m).foldlM (fun st x => openO (oneA m) (k + 1) st x) ([lxB], []) else none) = _
    rw [if_neg (by decide), if_pos (by rw [tags_len]; omega)]
    exact hA
  have h2 : openO (oneA m) (k + 2) ([lxB], tags 97 120 m) lxB = some ([lxB], tags 97 120 m) := by
    rw [openO, canB_eq _ (by decide), can_l, Option.bind_some, if_pos ⟨.inr (by decide), by simp, by rw [tags_len]; omega⟩, hat]
    show (if hasS lxB [lxB] = true then _ else _) = _
    rw [if_pos (by rw [hasS_mem]; simp)]
  show (lxB :: lxB :: tags 98 120 r).foldlM (fun st x => openO (oneA m) (k + 2) st x) ([], []) = _
  rw [List.foldlM_cons, h1]
  show (lxB :: tags 98 120 r).foldlM (fun st x => openO (oneA m) (k + 2) st x) ([lxB], tags 97 120 m) = _
  rw [List.foldlM_cons, h2]
  exact hB
theorem many_expand (m r : Nat) (hm : m ≤ 80) (hr : r ≤ 30) (l1 : List S96) (l2 : List S98) (z : Int) : Ev (fun k => Hand.alias_Expand.f k (oneA m) l1 l2 z ([lxB, lxB] ++ tags 98 120 r)) ((tags 97 120 m ++ tags 98 120 r).take 50) := by
  refine Ev_succ (Ev_succ (Ev.of (k := 0) (fun k => Hand.alias_Expand.mono _ _ _ _ _ (k + 1 + 1)) ?_))
  unfold Hand.alias_Expand.f expandO
  rw [if_pos ⟨by simp [oneA], by simp [tags_len]; omega⟩, many_open m r hm hr 0, Option.bind_some, if_pos]
  show (tags 97 120 m ++ tags 98 120 r).length ≤ 1000000
  rw [List.length_append, tags_len, tags_len]
  omega
theorem many_loop1 (a1 : Int) (m r : Nat) (hm : m ≤ 80) (hr : r ≤ 30) (ha : wrap64 (Int.tmod a1 30) = (r : Int)) : ∀ (d i : Nat), r - i = d → i ≤ r → Ev (fun k => estafettelaw16_AliasMany.l1 k a1 (tags 97 120 m) (tags 98 120 i) (i : Int)) true := by
  intro d
  induction d with
  | zero =>
    intro i hd hi
    obtain rfl : i = r := by omega
    refine Ev_succ ?_
    simp only [estafettelaw16_AliasMany.l1, ha]
    refine ev_neg (by omega) (ev_some (ev_pos (by rw [tags_len]; simp; omega) ?_))
    refine Ev.bind (many_expand m i hm hr _ _ _) (ev_some (ev_pos (by rw [tags_len]; simp; omega) (ev_some ?_)))
    rw [List.nil_append]
    refine ev_pos (by rw [tags_len, tags_len]; omega) (ev_some ?_)
    have hl : (tags 97 120 m ++ tags 98 120 i).length = m + i := by rw [List.length_append, tags_len, tags_len]
    by_cases h : m + i > 50
    · refine ev_pos (by rw [hl]; omega) (ev_pos (by rw [hl]; omega) (Ev.bind answers_ev (ev_pos rfl (Ev.bind (texts_ev _ ?_) (ev_now rfl)))))
      rw [List.length_take]
      omega
    · refine ev_neg (by rw [hl]; omega) (Ev.bind answers_ev (ev_pos rfl (Ev.bind ?_ (ev_now rfl))))
      rw [List.take_of_length_le (by omega)]
      exact texts_ev _ (by omega)
  | succ d ih =>
    intro i hd hi
    refine Ev_succ ?_
    simp only [estafettelaw16_AliasMany.l1, ha]
    refine ev_pos (by omega) (Ev.bind (dec_ev i (by omega)) ?_)
    have h2 := dS_size i (by omega)
    refine ev_pos (by omega) (ev_pos (by rw [ByteArray.size_append]; show 1 + (dS i).size + 2 ≤ _; omega) (ev_pos (by rw [tags_len]; omega) ?_))
    rw [(w_succ i (by omega)).out]
    have := ih (i + 1) (by omega) (by omega)
    rw [tags_succ] at this
    exact this
theorem many_loop0 (a0 a1 : Int) (m r : Nat) (hm : m ≤ 80) (hr : r ≤ 30) (h0 : wrap64 (wrap64 (Int.tmod a0 80) + 1) = (m : Int)) (ha : wrap64 (Int.tmod a1 30) = (r : Int)) : ∀ (d i : Nat), m - i = d → i ≤ m → Ev (fun k => estafettelaw16_AliasMany.l0 k a0 a1 (tags 97 120 i) (i : Int)) true := by
  intro d
  induction d with
  | zero =>
    intro i hd hi
    obtain rfl : i = m := by omega
    refine Ev_succ ?_
    simp only [estafettelaw16_AliasMany.l0, h0]
    exact ev_neg (by omega) (many_loop1 a1 i r hm hr ha r 0 rfl (Nat.zero_le _))
  | succ d ih =>
    intro i hd hi
    refine Ev_succ ?_
    simp only [estafettelaw16_AliasMany.l0, h0]
    refine ev_pos (by omega) (Ev.bind (dec_ev i (by omega)) ?_)
    have h2 := dS_size i (by omega)
    refine ev_pos (by omega) (ev_pos (by rw [ByteArray.size_append]; show 1 + (dS i).size + 2 ≤ _; omega) (ev_pos (by rw [tags_len]; omega) ?_))
    rw [(w_succ i (by omega)).out]
    have := ih (i + 1) (by omega) (by omega)
    rw [tags_succ] at this
    exact this
theorem AliasMany (a0 a1 : Int) (h0 : 0 ≤ a0 ∧ a0 < 256) (h1 : 0 ≤ a1 ∧ a1 < 256) : ∃ k, estafettelaw16_AliasMany.f k a0 a1 = some true := by
  refine Ev.rounds ?_
  simp only [estafettelaw16_AliasMany.f]
  have e0 : Int.tmod a0 80 = ((a0.toNat % 80 : Nat) : Int) := by rw [Int.tmod_eq_emod_of_nonneg h0.1]; omega
  have e1 : Int.tmod a1 30 = ((a1.toNat % 30 : Nat) : Int) := by rw [Int.tmod_eq_emod_of_nonneg h1.1]; omega
  refine many_loop0 a0 a1 (a0.toNat % 80 + 1) (a1.toNat % 30) (by omega) (by omega) ?_ ?_ (a0.toNat % 80 + 1) 0 rfl (Nat.zero_le _)
  · rw [e0, Go.IntWalk.wrap64_in ((a0.toNat % 80 : Nat) : Int) (by omega), Go.IntWalk.wrap64_in _ (by omega)]
    omega
  · rw [e1, Go.IntWalk.wrap64_in _ (by omega)]
end Go.Proofs.YtjkaicfakccmiaaDoor.Addr
