/- RouteAll, for every input. -/
import Derived.Test.YtaifpiknddgnmaaDoorRouteGrp
import Derived.Test.YtaifpiknddgnmaaDoorPFx
namespace Go.Proofs.YtaifpiknddgnmaaDoor.Addr
open Go.RowKit Go.Proofs.YtaifpiknddgnmaaDoor.PF Go.Proofs.YtaifpiknddgnmaaDoor.PC Go.Proofs.YtaifpiknddgnmaaDoor.PB Go.Proofs.YtaifpiknddgnmaaDoorW.PrintWords Go.Proofs.YtaifpiknddgnmaaDoorW.PrintLast Go.Proofs.YtaifpiknddgnmaaDoorW.PrintMore Go.Proofs.YtaifpiknddgnmaaDoor.Hand
set_option linter.unusedVariables false

/-! ## RouteAll -/
/-- What stands in a group: places that wait, in rising order, each of its own hop. -/
def Fine (hop : ByteArray → ByteArray × Bool) (marks : List Int) (h : ByteArray) (ok : Bool) (all : List ByteArray) (l : List Int) : Prop :=
  l.Pairwise (· ≠ ·) ∧ ∀ m ∈ l, ∃ a : Nat, m = (a : Int) ∧ waitsL marks a = true ∧ ∃ s, all[a]? = some s ∧ hop s = (h, ok)
theorem goOn_fine (hop : ByteArray → ByteArray × Bool) (marks : List Int) (h : ByteArray) (ok : Bool) (all ts : List ByteArray) : ∀ (i : Nat) (acc : List Int), ts = all.drop i → Fine hop marks h ok all acc → (∀ m ∈ acc, m < (i : Int)) → Fine hop marks h ok all (goOn hop marks h ok ts i acc) := by
  induction ts with
  | nil => intro i acc _ hf _; exact hf
  | cons t ts ih =>
    intro i acc ht hf hm
    have hi : i < all.length := by
      rcases Nat.lt_or_ge i all.length with h1 | h1
      · exact h1
      · rw [List.drop_eq_nil_of_le h1] at ht
        cases ht
    rw [List.drop_eq_getElem_cons hi] at ht
    injection ht with ht1 ht2
    rw [goOn]
    by_cases hh : waitsL marks i = true ∧ hop t = (h, ok) ∧ h ≠ localB
    · rw [if_pos hh]
      refine ih (i + 1) _ ht2 ⟨?_, ?_⟩ ?_
      · rw [List.pairwise_append]
        refine ⟨hf.1, List.pairwise_singleton _ _, fun a ha b hb => ?_⟩
        rw [List.mem_singleton] at hb
        have := hm a ha
        omega
      · intro m hm'
        rcases List.mem_append.1 hm' with hm' | hm'
        · exact hf.2 m hm'
        · rw [List.mem_singleton] at hm'
          exact ⟨i, hm', hh.1, t, by rw [List.getElem?_eq_getElem hi, ht1], hh.2.1⟩
      · intro m hm'
        rcases List.mem_append.1 hm' with hm' | hm'
        · have := hm m hm'
          omega
        · rw [List.mem_singleton] at hm'
          omega
    · rw [if_neg hh]
      exact ih (i + 1) _ ht2 hf (fun m hm' => by have := hm m hm'; omega)
theorem group_fine (hop : ByteArray → ByteArray × Bool) (marks : List Int) (all ts : List ByteArray) : ∀ i, ts = all.drop i →
    Fine hop marks (groupFrom hop marks ts i).1 (groupFrom hop marks ts i).2.2 all (groupFrom hop marks ts i).2.1 := by
  induction ts with
  | nil => intro i _; exact ⟨List.Pairwise.nil, fun m hm => by cases hm⟩
  | cons t ts ih =>
    intro i ht
    have hi : i < all.length := by
      rcases Nat.lt_or_ge i all.length with h1 | h1
      · exact h1
      · rw [List.drop_eq_nil_of_le h1] at ht
        cases ht
    rw [List.drop_eq_getElem_cons hi] at ht
    injection ht with ht1 ht2
    rw [groupFrom]
    by_cases hw : waitsL marks i = true
    · rw [if_pos hw]
      refine goOn_fine hop marks (hop t).1 (hop t).2 all ts (i + 1) [(i : Int)] ht2 ⟨List.pairwise_singleton _ _, fun m hm => ?_⟩ (fun m hm => ?_)
      · rw [List.mem_singleton] at hm
        exact ⟨i, hm, hw, t, by rw [List.getElem?_eq_getElem hi, ht1], rfl⟩
      · rw [List.mem_singleton] at hm
        omega
    · rw [if_neg hw]
      exact ih (i + 1) ht2
theorem goOn_ne (hop : ByteArray → ByteArray × Bool) (marks : List Int) (h : ByteArray) (ok : Bool) (ts : List ByteArray) : ∀ (i : Nat) (acc : List Int), acc ≠ [] → goOn hop marks h ok ts i acc ≠ [] := by
  induction ts with
  | nil => intro i acc h; exact h
  | cons t ts ih =>
    intro i acc h
    rw [goOn]
    refine ih _ _ ?_
    split
    · simp
    · exact h
theorem group_empty (hop : ByteArray → ByteArray × Bool) (marks : List Int) (ts : List ByteArray) : ∀ i, (groupFrom hop marks ts i).2.1 = [] → ∀ j, j < ts.length → waitsL marks (i + j) = false := by
  induction ts with
  | nil => intro i _ j hj; exact absurd hj (Nat.not_lt_zero _)
  | cons t ts ih =>
    intro i he j hj
    rw [groupFrom] at he
    by_cases hw : waitsL marks i = true
    · rw [if_pos hw] at he
      exact absurd he (goOn_ne _ _ _ _ _ _ _ (by simp))
    · rw [if_neg hw] at he
      cases j with
      | zero => simpa using hw
      | succ j =>
        have := ih (i + 1) he j (by rw [List.length_cons] at hj; omega)
        rw [show i + (j + 1) = i + 1 + j from by omega]
        exact this
def doneAt (marks : List Int) (l : List Int) : List Int := l.foldl (fun m p => m.set p.toNat 1) marks
theorem done_len (l : List Int) : ∀ marks, (doneAt marks l).length = marks.length := by
  induction l with
  | nil => intro marks; rfl
  | cons p l ih => intro marks; show (doneAt (marks.set p.toNat 1) l).length = _; rw [ih, List.length_set]
theorem done_count (l : List Int) : ∀ marks, l.Pairwise (· ≠ ·) → (∀ m ∈ l, ∃ a : Nat, m = (a : Int) ∧ marks[a]? = some 0) → (doneAt marks l).count 0 + l.length = marks.count 0 := by
  induction l with
  | nil => intro marks _ _; rfl
  | cons p l ih =>
    intro marks hp hm
    rw [List.pairwise_cons] at hp
    obtain ⟨a, rfl, ha⟩ := hm p List.mem_cons_self
    obtain ⟨hal, hae⟩ := List.getElem?_eq_some_iff.1 ha
    have hc : (marks.set a 1).count 0 + 1 = marks.count 0 := by
      have h1 : 0 < marks.count 0 := List.count_pos_iff.2 (by rw [← hae]; exact List.getElem_mem hal)
      rw [List.count_set hal, hae]
      simp
      omega
    have := ih (marks.set a 1) hp.2 (fun m hml => by
      obtain ⟨b, rfl, hb⟩ := hm m (List.mem_cons_of_mem _ hml)
      refine ⟨b, rfl, ?_⟩
      have hne := hp.1 (b : Int) hml
      rw [List.getElem?_set_ne (by omega)]
      exact hb)
    show (doneAt (marks.set (a : Int).toNat 1) l).count 0 + (l.length + 1) = _
    rw [Int.toNat_natCast]
    omega
theorem all_last (marks : List Int) (hm : marks.length ≤ 60) (hz : ∀ m ∈ marks, m ≠ 0) : ∀ (d i : Nat), marks.length - i = d → i ≤ marks.length → Ev (fun k => estafettelaw17_RouteAll.l2 k marks (i : Int)) true := by
  intro d
  induction d with
  | zero =>
    intro i hd hi
    refine Ev_succ ?_
    simp only [estafettelaw17_RouteAll.l2]
    exact ev_neg (by omega) (ev_answers (ev_now rfl))
  | succ d ih =>
    intro i hd hi
    have hlt : i < marks.length := by omega
    have e2 := w_succ i (by omega)
    have hrd : rd marks (i : Int) = marks[i] := by
      unfold rd
      rw [Int.toNat_natCast, List.getD_eq_getElem?_getD, List.getElem?_eq_getElem hlt]
      rfl
    refine Ev_succ ?_
    simp only [estafettelaw17_RouteAll.l2, e2.out]
    exact ev_pos (by omega) (ev_pos (by omega) (ev_neg (by rw [hrd]; exact hz _ (List.getElem_mem hlt)) (ih (i + 1) (by omega) (by omega))))
section
variable (l0 : List SAli) (l1 : List SHop) (l2 : List SBan) (n : Int) (hl : l1.length < 1000000000001) (ts : List ByteArray) (hts : ts.length ≤ 60) (hsz : ∀ s ∈ ts, s.size ≤ 140737488351232)
include hl hts hsz
omit hts in
theorem all_inner (h : ByteArray) (ok : Bool) (l : List Int) (i : Nat) (hln : l.length ≤ 60) : ∀ (rest : List Int) (j : Nat) (marks : List Int), rest = l.drop j → marks.length = ts.length → rest.Pairwise (· ≠ ·) →
    (∀ m ∈ rest, ∃ a : Nat, m = (a : Int) ∧ marks[a]? = some 0 ∧ ∃ s, ts[a]? = some s ∧ hopL l1 s = (h, ok)) →
    Ev (fun k => estafettelaw17_RouteAll.l0 k ts (doneAt marks rest) (wrap64 ((i : Int) + 1)) l0 l1 l2 n) true → Ev (fun k => estafettelaw17_RouteAll.l1 k ts marks (i : Int) h l ok (j : Int) l0 l1 l2 n) true := by
  intro rest
  induction rest with
  | nil =>
    intro j marks hr hm _ _ hk
    have : l.length ≤ j := List.drop_eq_nil_iff.1 hr.symm
    refine Ev_succ ?_
    simp only [estafettelaw17_RouteAll.l1]
    exact ev_neg (by omega) hk
  | cons p rest ih =>
    intro j marks hr hm hp hf hk
    have hj : j < l.length := by
      rcases Nat.lt_or_ge j l.length with h1 | h1
      · exact h1
      · rw [List.drop_eq_nil_of_le h1] at hr
        cases hr
    rw [List.drop_eq_getElem_cons hj] at hr
    injection hr with hr1 hr2
    rw [List.pairwise_cons] at hp
    obtain ⟨a, rfl, ha, s, hs, hh⟩ := hf p List.mem_cons_self
    obtain ⟨hal, hae⟩ := List.getElem?_eq_some_iff.1 ha
    obtain ⟨hsl, hse⟩ := List.getElem?_eq_some_iff.1 hs
    have hss := hsz s (by rw [← hse]; exact List.getElem_mem hsl)
    have e2 := w_succ j (by omega)
    have hrd : rd l (j : Int) = (a : Int) := by
      unfold rd
      rw [Int.toNat_natCast, List.getD_eq_getElem?_getD, List.getElem?_eq_getElem hj, hr1]
      rfl
    have hrm : rd marks (a : Int) = 0 := by
      unfold rd
      rw [Int.toNat_natCast, List.getD_eq_getElem?_getD, ha]
      rfl
    have hrt : rdOf ByteArray.empty ts (a : Int) = s := by rw [rd_str ts a hsl, hse]
    have hn := ih (j + 1) (marks.set a 1) hr2 (by rw [List.length_set]; exact hm) hp.2 (fun m hml => by
      obtain ⟨b, rfl, hb, hb2⟩ := hf m (List.mem_cons_of_mem _ hml)
      refine ⟨b, rfl, ?_, hb2⟩
      have hne := hp.1 (b : Int) hml
      rw [List.getElem?_set_ne (by omega)]
      exact hb) hk
    refine Ev_succ ?_
    simp only [estafettelaw17_RouteAll.l1, hrd]
    refine ev_pos (by omega) (ev_pos (by omega) (ev_neg (by omega) (ev_neg (by omega) (ev_pos (by omega) (ev_pos (by omega) (Ev_succ ?_))))))
    simp only [estafettelaw17_RouteAll.j3, hrd, hrm, hrt, e2.out, Int.toNat_natCast]
    refine ev_neg (by simp) (ev_pos (by omega) (ev_pos (by omega) (ev_pos (by omega) (ev_pos (by omega) (Ev.bind (refHop_ev l0 l1 l2 n s hl (by omega)) ?_)))))
    rw [hh]
    refine ev_neg (by simp) ?_
    cases ok with
    | true => exact ev_pos rfl (ev_pos rfl (ev_pos (by omega) hn))
    | false => exact ev_neg (by simp) (ev_pos (by omega) hn)
theorem all_outer : ∀ (z : Nat) (marks : List Int) (i : Nat), marks.count 0 = z → z + i ≤ ts.length → marks.length = ts.length → Ev (fun k => estafettelaw17_RouteAll.l0 k ts marks (i : Int) l0 l1 l2 n) true := by
  intro z
  induction z using Nat.strongRecOn with
  | ind z ih =>
    intro marks i hc hi hm
    have hg := routeGroup_ev l0 l1 l2 n hl ts hts hsz marks
    have hgl := group_len (hopL l1) marks ts 0
    have hgf := group_fine (hopL l1) marks ts ts 0 rfl
    have hge := group_empty (hopL l1) marks ts 0
    generalize groupFrom (hopL l1) marks ts 0 = g at hg hgl hgf hge
    obtain ⟨h, l, ok⟩ := g
    refine Ev_succ ?_
    simp only [estafettelaw17_RouteAll.l0]
    refine ev_pos (by omega) (Ev.bind hg ?_)
    cases l with
    | nil =>
      refine ev_pos rfl (Ev_succ ?_)
      simp only [estafettelaw17_RouteAll.j4]
      refine all_last marks (by omega) (fun m hml h0 => ?_) _ 0 rfl (Nat.zero_le _)
      subst h0
      obtain ⟨j, hj, hje⟩ := List.mem_iff_getElem.1 hml
      have := hge rfl j (by omega)
      rw [Nat.zero_add] at this
      unfold waitsL at this
      rw [List.getD_eq_getElem?_getD, List.getElem?_eq_getElem hj, hje] at this
      simp at this
    | cons p l =>
      refine ev_neg (by show ¬ ((p :: l).length : Int) = 0; rw [List.length_cons]; omega) ?_
      have hf2 : ∀ m ∈ p :: l, ∃ a : Nat, m = (a : Int) ∧ marks[a]? = some 0 ∧ ∃ s, ts[a]? = some s ∧ hopL l1 s = (h, ok) := by
        intro m hml
        obtain ⟨a, h1, h2, s, h3, h4⟩ := hgf.2 m hml
        refine ⟨a, h1, ?_, s, h3, h4⟩
        obtain ⟨ha, _⟩ := List.getElem?_eq_some_iff.1 h3
        unfold waitsL at h2
        rw [decide_eq_false (by omega), Bool.false_or, List.getD_eq_getElem?_getD, List.getElem?_eq_getElem (by omega)] at h2
        rw [List.getElem?_eq_getElem (by omega)]
        simpa using h2
      have hdc := done_count (p :: l) marks hgf.1 (fun m hml => by obtain ⟨a, h1, h2, _⟩ := hf2 m hml; exact ⟨a, h1, h2⟩)
      rw [List.length_cons] at hdc
      refine all_inner l0 l1 l2 n hl ts hsz h ok (p :: l) i (Nat.le_trans hgl hts) (p :: l) 0 marks rfl hm hgf.1 hf2 ?_
      rw [(w_succ i (by omega)).out]
      exact ih _ (by omega) (doneAt marks (p :: l)) (i + 1) rfl (by omega) (by rw [done_len]; exact hm)
end
theorem RouteAll (l0 : List SAli) (l1 : List SHop) (l2 : List SBan) (n : Int) (ts : List ByteArray) (hsz : ∀ s ∈ ts, s.size ≤ 140737488351232) : ∃ k, estafettelaw17_RouteAll.f k l0 l1 l2 n ts = some true := by
  refine Ev.rounds ?_
  unfold estafettelaw17_RouteAll.f
  have hj : ∀ b, (b = false → l1.length ≤ 50 ∧ ts.length ≤ 60) → Ev (fun k => estafettelaw17_RouteAll.j0 k ts b l0 l1 l2 n) true := by
    intro b hb
    refine Ev_succ ?_
    simp only [estafettelaw17_RouteAll.j0]
    cases b with
    | true => exact ev_pos rfl (ev_answers (ev_now rfl))
    | false =>
      obtain ⟨h1, h2⟩ := hb rfl
      refine ev_neg (by simp) (ev_pos (by omega) (ev_pos (by omega) ?_))
      rw [Int.toNat_natCast]
      refine all_outer l0 l1 l2 n (by omega) ts h2 hsz _ _ 0 rfl ?_ (by rw [List.length_replicate])
      rw [List.count_replicate_self]
      exact Nat.le_refl _
  by_cases h : (l1.length : Int) > 50
  · exact ev_pos h (hj true (by simp))
  · refine ev_neg h (hj _ (fun hb => ⟨by omega, ?_⟩))
    have := of_decide_eq_false hb
    omega
end Go.Proofs.YtaifpiknddgnmaaDoor.Addr
