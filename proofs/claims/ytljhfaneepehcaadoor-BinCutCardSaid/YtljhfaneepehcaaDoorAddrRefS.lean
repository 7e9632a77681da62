/- What the document's functions of chapter 1, and the program's, compute: the plain functions of AddrSpec, for every string. -/
import Derived.Test.YtljhfaneepehcaaDoorPBx1
import Derived.Test.YtljhfaneepehcaaDoorPBx7
import Derived.Test.YtljhfaneepehcaaDoorAddrEv
namespace Go.Proofs.YtljhfaneepehcaaDoor.Addr
open Go.RowKit Go.Proofs.YtljhfaneepehcaaDoor.PB Go.Proofs.YtljhfaneepehcaaDoorW.PrintWords Go.Proofs.YtljhfaneepehcaaDoorW.PrintLast Go.Proofs.YtljhfaneepehcaaDoorW.PrintMore
set_option linter.unusedVariables false

theorem bt_mk (l : List UInt8) (i : Nat) (h : i < l.length) : bt (mk l) (i : Int) = ((l[i]).toNat : Int) := by
  unfold bt
  rw [dif_pos (by rw [Int.toNat_natCast, mk_size]; exact h)]
  rfl
theorem rd_mk (L : List (List UInt8)) (i : Nat) (h : i < L.length) : rdOf ByteArray.empty (L.map mk) (i : Int) = mk L[i] := by
  unfold rdOf
  simp [List.getD_eq_getElem?_getD, h]
theorem w_succ (i : Nat) (h : i < 4611686018427387904) : Aside0 (wrap64 ((i : Int) + 1) = ((i + 1 : Nat) : Int)) := ⟨by unfold wrap64; omega⟩
theorem w_pred (i : Nat) (h : i < 4611686018427387904) (h0 : 0 < i) : Aside0 (wrap64 ((i : Int) - 1) = ((i - 1 : Nat) : Int)) := ⟨by unfold wrap64; omega⟩
theorem nat_eq (a b : UInt8) : ((a.toNat : Int) = (b.toNat : Int)) ↔ a = b := by
  rw [Int.natCast_inj]
  exact UInt8.toNat_inj
theorem ref_letter (c : UInt8) : estafetteref01_letter.f (c.toNat : Int) = some (letterB c) := by
  have := all8 (p := fun c => estafetteref01_letter.f (c.toNat : Int) == some (letterB c)) (by decide +kernel) c
  simpa using this

/-! ## in, find -/
theorem in_loop (l : List UInt8) (c : UInt8) (hs : l.length < 4611686018427387904) : ∀ (d i : Nat), l.length - i = d → i ≤ l.length →
    Ev (fun k => estafetteref01_in.l0 k (mk l) (c.toNat : Int) (i : Int)) (decide (c ∈ l.drop i)) := by
  intro d
  induction d with
  | zero =>
    intro i hd hi
    rw [List.drop_eq_nil_of_le (by omega)]
    exact Ev.step (f := fun _ => some false) (fun k => by simp only [estafetteref01_in.l0]; rw [if_neg (by rw [mk_size]; omega)]) (ev_now (by simp))
  | succ d ih =>
    intro i hd hi
    have hl : i < l.length := by omega
    have e2 := w_succ i (by omega)
    rw [List.drop_eq_getElem_cons hl]
    refine Ev.step (f := fun k => if ((l[i]).toNat : Int) = (c.toNat : Int) then some true else estafetteref01_in.l0 k (mk l) (c.toNat : Int) ((i + 1 : Nat) : Int)) (fun k => ?_) ?_
    · simp only [estafetteref01_in.l0]
      rw [if_pos (by rw [mk_size]; omega), if_pos (by omega), bt_mk l i hl, e2.out]
    · by_cases e : l[i] = c
      · exact ev_pos (by rw [e]) (ev_now (by simp [e]))
      · refine ev_neg (fun h => e ((nat_eq _ _).1 h)) ?_
        have e3 : decide (c ∈ l[i] :: l.drop (i + 1)) = decide (c ∈ l.drop (i + 1)) := by
          rw [decide_eq_decide, List.mem_cons]
          exact ⟨fun h => h.resolve_left (fun h => e h.symm), .inr⟩
        rw [e3]
        exact ih (i + 1) (by omega) (by omega)
theorem in_ev (l : List UInt8) (c : UInt8) (hs : l.length < 4611686018427387904) : Ev (fun k => estafetteref01_in.f k (mk l) (c.toNat : Int)) (decide (c ∈ l)) := in_loop l c hs l.length 0 rfl (Nat.zero_le _)
def findL (c : UInt8) (l : List UInt8) : Int := match cutB c l with
  | some (a, _) => (a.length : Int)
  | none => -1
theorem find_loop (l : List UInt8) (c : UInt8) (hs : l.length < 4611686018427387904) : ∀ (d i : Nat), l.length - i = d → i ≤ l.length → c ∉ l.take i →
    Ev (fun k => estafetteref01_find.l0 k (mk l) (c.toNat : Int) (i : Int)) (findL c l) := by
  intro d
  induction d with
  | zero =>
    intro i hd hi hno
    rw [List.take_of_length_le (by omega)] at hno
    exact Ev.step (f := fun _ => some (-1)) (fun k => by simp only [estafetteref01_find.l0]; rw [if_neg (by rw [mk_size]; omega)]) (ev_now (by unfold findL; rw [cut_no c l hno]))
  | succ d ih =>
    intro i hd hi hno
    have hl : i < l.length := by omega
    have e2 := w_succ i (by omega)
    refine Ev.step (f := fun k => if ((l[i]).toNat : Int) = (c.toNat : Int) then some (i : Int) else estafetteref01_find.l0 k (mk l) (c.toNat : Int) ((i + 1 : Nat) : Int)) (fun k => ?_) ?_
    · simp only [estafetteref01_find.l0]
      rw [if_pos (by rw [mk_size]; omega), if_pos (by omega), bt_mk l i hl, e2.out]
    · by_cases e : l[i] = c
      · refine ev_pos (by rw [e]) (ev_now ?_)
        have h1 : l = l.take i ++ c :: l.drop (i + 1) := by rw [← e, ← List.drop_eq_getElem_cons hl, List.take_append_drop]
        have h2 : cutB c l = some (l.take i, l.drop (i + 1)) := by
          have := cut_app c (l.take i) (l.drop (i + 1)) hno
          rw [← h1] at this
          exact this
        unfold findL
        rw [h2]
        show (i : Int) = ((l.take i).length : Int)
        rw [List.length_take]
        omega
      · refine ev_neg (fun h => e ((nat_eq _ _).1 h)) (ih (i + 1) (by omega) (by omega) ?_)
        rw [List.take_succ_eq_append_getElem hl, List.mem_append, List.mem_singleton, not_or]
        exact ⟨hno, fun h => e h.symm⟩
theorem find_ev (l : List UInt8) (c : UInt8) (hs : l.length < 4611686018427387904) : Ev (fun k => estafetteref01_find.f k (mk l) (c.toNat : Int)) (findL c l) :=
  find_loop l c hs l.length 0 rfl (Nat.zero_le _) (by simp)

/-! ## Cut -/
theorem cut_loop (l : List UInt8) (c : UInt8) (hs : l.length < 1000000000000) : ∀ (d i : Nat), l.length - i = d → i ≤ l.length →
    Ev (fun k => estafetteref01_Cut.l0 k (mk l) (c.toNat : Int) ((parts c (l.take i)).map mk) (i : Int)) ((parts c l).map mk) := by
  intro d
  induction d with
  | zero =>
    intro i hd hi
    rw [List.take_of_length_le (by omega)]
    exact Ev.step (f := fun _ => some ((parts c l).map mk)) (fun k => by simp only [estafetteref01_Cut.l0]; rw [if_neg (by rw [mk_size]; omega)]) (ev_now rfl)
  | succ d ih =>
    intro i hd hi
    have hl : i < l.length := by omega
    have e2 := w_succ i (by omega)
    have hnext := ih (i + 1) (by omega) (by omega)
    rw [List.take_succ_eq_append_getElem hl, parts_snoc] at hnext
    have hcnt := parts_count c (l.take i)
    have hcl := List.count_le_length (a := c) (l := l.take i)
    rw [List.length_take] at hcl
    by_cases e : l[i] = c
    · rw [if_pos e] at hnext
      refine Ev.step (f := fun k => estafetteref01_Cut.l0 k (mk l) (c.toNat : Int) ((parts c (l.take i) ++ [[]]).map mk) ((i + 1 : Nat) : Int)) (fun k => ?_) hnext
      simp only [estafetteref01_Cut.l0]
      rw [if_pos (by rw [mk_size]; omega), if_pos (by omega), bt_mk l i hl, if_pos (by rw [e]), if_pos (by rw [List.length_map]; omega), e2.out, List.map_append]
      rfl
    · rw [if_neg e] at hnext
      obtain ⟨ps, p, hp⟩ : ∃ ps p, parts c (l.take i) = ps ++ [p] := ⟨_, _, (List.dropLast_concat_getLast (parts_ne c (l.take i))).symm⟩
      rw [hp] at hnext hcnt ⊢
      rw [List.dropLast_concat, List.getLast?_concat] at hnext
      have hlen : ((ps ++ [p]).map mk).length = ps.length + 1 := by simp
      rw [List.length_append, List.length_singleton] at hcnt
      have e3 := w_pred (ps.length + 1) (by omega) (by omega)
      have hpl : p.length ≤ l.length := by
        have := Hand.parts_len c (l.take i) p (by rw [hp]; simp)
        rw [List.length_take] at this
        omega
      have hr : rdOf ByteArray.empty ((ps ++ [p]).map mk) ((ps.length : Nat) : Int) = mk p := by
        rw [rd_mk _ _ (by simp)]
        simp
      have hx : (mk l).extract i (i + 1) = mk [l[i]] := by
        rw [extract_mk, Nat.add_sub_cancel_left, List.drop_eq_getElem_cons hl]
        rfl
      have hset : ((ps ++ [p]).map mk).set ps.length (mk (p ++ [l[i]])) = (ps ++ [p ++ [l[i]]]).map mk := by
        rw [List.map_append, List.set_append_right _ _ (by simp)]
        simp
      refine Ev.step (f := fun k => estafetteref01_Cut.l0 k (mk l) (c.toNat : Int) ((ps ++ [p ++ [l[i]]]).map mk) ((i + 1 : Nat) : Int)) (fun k => ?_) hnext
      simp only [estafetteref01_Cut.l0]
      rw [if_pos (by rw [mk_size]; omega), if_pos (by omega), bt_mk l i hl, if_neg (fun h => e ((nat_eq _ _).1 h)), hlen, e3.out, Nat.add_sub_cancel, if_pos (by omega), if_pos (by omega), e2.out, if_pos (by omega), if_pos (by rw [mk_size]; omega), hr, Int.toNat_natCast, Int.toNat_natCast, Int.toNat_natCast, hx, if_pos (by rw [mk_size, mk_size, List.length_singleton]; omega), mk_app, hset]
theorem cut_ev (l : List UInt8) (c : UInt8) (hs : l.length < 1000000000000) : Ev (fun k => estafetteref01_Cut.f k (mk l) (c.toNat : Int)) ((parts c l).map mk) := by
  have := cut_loop l c hs l.length 0 rfl (Nat.zero_le _)
  exact this

/-! ## Local, Domain -/
theorem mk_marks : mk marks = (⟨#[33, 35, 36, 37, 38, 39, 42, 43, 45, 47, 61, 63, 94, 95, 96, 123, 124, 125, 126]⟩ : ByteArray) := rfl
theorem toList_mk (l : List UInt8) : (mk l).toList = l := by rw [Lib.toList_data, list_mk]
theorem local_loops (L : List (List UInt8)) (hL : L.length < 1000000000001) (hp : ∀ p ∈ L, p.length < 1000000000000) : ∀ (d i : Nat), L.length - i = d → i ≤ L.length →
    Ev (fun k => estafetteref01_Local.l0 k (L.map mk) (i : Int)) ((L.drop i).all localP) := by
  intro d
  induction d with
  | zero =>
    intro i hd hi
    rw [List.drop_eq_nil_of_le (by omega)]
    exact Ev.step (f := fun _ => some true) (fun k => by simp only [estafetteref01_Local.l0]; rw [if_neg (by rw [List.length_map]; omega)]) (ev_now rfl)
  | succ d ih =>
    intro i hd hi
    have hl : i < L.length := by omega
    have hps := hp L[i] (List.getElem_mem hl)
    have e2 := w_succ i (by omega)
    have hnext := ih (i + 1) (by omega) (by omega)
    rw [List.drop_eq_getElem_cons hl, List.all_cons]
    generalize hq : L[i] = p at hps ⊢
    have hr : Aside0 (rdOf ByteArray.empty (L.map mk) (i : Int) = mk p) := ⟨by rw [rd_mk L i hl, hq]⟩
    -- the inner loop
    have inner : ∀ (d2 j : Nat), p.length - j = d2 → j ≤ p.length → Ev (fun k => estafetteref01_Local.l1 k (L.map mk) (i : Int) (j : Int)) ((p.drop j).all atomB && (L.drop (i + 1)).all localP) := by
      intro d2
      induction d2 with
      | zero =>
        intro j hd2 hj
        rw [List.drop_eq_nil_of_le (by omega), List.all_nil, Bool.true_and]
        refine Ev.step (fun k => ?_) hnext
        simp only [estafetteref01_Local.l1]
        rw [if_pos (by omega), if_pos (by rw [List.length_map]; omega), hr.out, if_neg (by rw [mk_size]; omega), e2.out]
      | succ d2 ih2 =>
        intro j hd2 hj
        have hlj : j < p.length := by omega
        have e3 := w_succ j (by omega)
        have hn2 := ih2 (j + 1) (by omega) (by omega)
        rw [List.drop_eq_getElem_cons hlj, List.all_cons]
        refine Ev.step (f := fun k => if letterB p[j] = true then (estafetteref01_Local.l1 k (L.map mk) (i : Int) ((j + 1 : Nat) : Int)) else ((estafetteref01_in.f k (mk marks) ((p[j]).toNat : Int)).bind fun t134 => (if t134 = true then (estafetteref01_Local.l1 k (L.map mk) (i : Int) ((j + 1 : Nat) : Int)) else (some false)))) (fun k => ?_) ?_
        · simp only [estafetteref01_Local.l1]
          rw [if_pos (by omega), if_pos (by rw [List.length_map]; omega), hr.out, if_pos (by rw [mk_size]; omega), if_pos (by omega), bt_mk p j hlj, ref_letter, e3.out, ← mk_marks]
          rfl
        · cases hb : letterB p[j] with
          | true =>
            refine ev_pos rfl ?_
            rw [show atomB p[j] = true from by unfold atomB; rw [hb]; rfl, Bool.true_and]
            exact hn2
          | false =>
            refine ev_neg (by simp) (Ev.bind (in_ev marks p[j] (by decide)) ?_)
            by_cases hm : p[j] ∈ marks
            · refine ev_pos (decide_eq_true hm) ?_
              rw [show atomB p[j] = true from by unfold atomB; rw [hb, decide_eq_true hm]; rfl, Bool.true_and]
              exact hn2
            · refine ev_neg (by rw [decide_eq_true_iff]; exact hm) (ev_now ?_)
              rw [show atomB p[j] = false from by unfold atomB; rw [hb, decide_eq_false hm]; rfl, Bool.false_and, Bool.false_and]
    by_cases h0 : p = []
    · refine Ev.step (f := fun _ => some false) (fun k => ?_) (ev_now ?_)
      · simp only [estafetteref01_Local.l0]
        rw [if_pos (by rw [List.length_map]; omega), if_pos (by omega), hr.out, if_pos (by rw [toList_mk]; exact h0)]
      · rw [h0]
        rfl
    · refine Ev.step (f := fun k => estafetteref01_Local.l1 k (L.map mk) (i : Int) ((0 : Nat) : Int)) (fun k => ?_) ?_
      · simp only [estafetteref01_Local.l0]
        rw [if_pos (by rw [List.length_map]; omega), if_pos (by omega), hr.out, if_neg (by rw [toList_mk]; exact h0)]
        rfl
      · have := inner p.length 0 rfl (Nat.zero_le _)
        rw [List.drop_zero] at this
        have e4 : localP p = p.all atomB := by
          unfold localP
          cases p with
          | nil => exact absurd rfl h0
          | cons x p => rfl
        rw [e4]
        exact this
theorem refLocal_ev (l : List UInt8) (hs : l.length < 4611686018427387904) : Ev (fun k => estafetteref01_Local.f k (mk l)) (localL l) := by
  unfold estafetteref01_Local.f localL
  by_cases h : l.length ≤ 64
  · refine ev_neg (by rw [mk_size]; omega) ?_
    rw [decide_eq_true h, Bool.true_and]
    refine Ev.bind (g := fun k => estafetteref01_Cut.f k (mk l) 46) (cut_ev l 46 (by omega)) ?_
    have hc := parts_count 46 l
    have hcl := List.count_le_length (a := 46) (l := l)
    have := local_loops (parts 46 l) (by omega) (fun p hp => by have := Hand.parts_len 46 l p hp; omega) _ 0 rfl (Nat.zero_le _)
    rw [List.drop_zero] at this
    exact this
  · refine ev_pos (by rw [mk_size]; omega) (ev_now ?_)
    rw [decide_eq_false h]
    rfl
theorem domain_loops (L : List (List UInt8)) (hL : L.length < 1000000000001) (hp : ∀ p ∈ L, p.length < 1000000000000) : ∀ (d i : Nat), L.length - i = d → i ≤ L.length →
    Ev (fun k => estafetteref01_Domain.l0 k (L.map mk) (i : Int)) ((L.drop i).all labelL) := by
  intro d
  induction d with
  | zero =>
    intro i hd hi
    rw [List.drop_eq_nil_of_le (by omega)]
    exact Ev.step (f := fun _ => some true) (fun k => by simp only [estafetteref01_Domain.l0]; rw [if_neg (by rw [List.length_map]; omega)]) (ev_now rfl)
  | succ d ih =>
    intro i hd hi
    have hl : i < L.length := by omega
    have hps := hp L[i] (List.getElem_mem hl)
    have e2 := w_succ i (by omega)
    have hnext := ih (i + 1) (by omega) (by omega)
    rw [List.drop_eq_getElem_cons hl, List.all_cons]
    generalize hq : L[i] = p at hps ⊢
    have hr : Aside0 (rdOf ByteArray.empty (L.map mk) (i : Int) = mk p) := ⟨by rw [rd_mk L i hl, hq]⟩
    have inner : ∀ (d2 j : Nat), p.length - j = d2 → j ≤ p.length → Ev (fun k => estafetteref01_Domain.l1 k (L.map mk) (i : Int) (mk p) (j : Int)) ((p.drop j).all innerB && (L.drop (i + 1)).all labelL) := by
      intro d2
      induction d2 with
      | zero =>
        intro j hd2 hj
        rw [List.drop_eq_nil_of_le (by omega), List.all_nil, Bool.true_and]
        refine Ev.step (fun k => ?_) hnext
        simp only [estafetteref01_Domain.l1]
        rw [if_neg (by rw [mk_size]; omega), e2.out]
      | succ d2 ih2 =>
        intro j hd2 hj
        have hlj : j < p.length := by omega
        have e3 := w_succ j (by omega)
        have hn2 := ih2 (j + 1) (by omega) (by omega)
        rw [List.drop_eq_getElem_cons hlj, List.all_cons]
        refine Ev.step (f := fun k => if letterB p[j] = true then (estafetteref01_Domain.l1 k (L.map mk) (i : Int) (mk p) ((j + 1 : Nat) : Int)) else (if ((p[j]).toNat : Int) = 45 then (estafetteref01_Domain.l1 k (L.map mk) (i : Int) (mk p) ((j + 1 : Nat) : Int)) else (some false))) (fun k => ?_) ?_
        · simp only [estafetteref01_Domain.l1]
          rw [if_pos (by rw [mk_size]; omega), if_pos (by omega), bt_mk p j hlj, ref_letter, e3.out]
          rfl
        · cases hb : letterB p[j] with
          | true =>
            refine ev_pos rfl ?_
            rw [show innerB p[j] = true from by unfold innerB; rw [hb]; rfl, Bool.true_and]
            exact hn2
          | false =>
            refine ev_neg (by simp) ?_
            by_cases hm : p[j] = 45
            · refine ev_pos (by rw [hm]; rfl) ?_
              rw [show innerB p[j] = true from by unfold innerB; rw [hm]; rfl, Bool.true_and]
              exact hn2
            · refine ev_neg (fun h => hm ((nat_eq p[j] 45).1 h)) (ev_now ?_)
              rw [show innerB p[j] = false from by unfold innerB; rw [hb]; simpa using hm, Bool.false_and, Bool.false_and]
    have j_true : labelL p = false → Ev (fun k => estafetteref01_Domain.j1 k (L.map mk) (i : Int) (mk p) true) (labelL p && (L.drop (i + 1)).all labelL) := by
      intro h2
      refine Ev.step (f := fun _ => some false) (fun k => ?_) (ev_now ?_)
      · simp only [estafetteref01_Domain.j1]
        rw [if_pos trivial]
      · rw [h2]
        rfl
    have j_false : labelL p = p.all innerB → Ev (fun k => estafetteref01_Domain.j1 k (L.map mk) (i : Int) (mk p) false) (labelL p && (L.drop (i + 1)).all labelL) := by
      intro h2
      refine Ev.step (f := fun k => estafetteref01_Domain.l1 k (L.map mk) (i : Int) (mk p) ((0 : Nat) : Int)) (fun k => ?_) ?_
      · simp only [estafetteref01_Domain.j1]
        rw [if_neg (by simp)]
        rfl
      · have := inner p.length 0 rfl (Nat.zero_le _)
        rw [List.drop_zero] at this
        rw [h2]
        exact this
    by_cases h0 : p = []
    · refine Ev.step (fun k => ?_) (j_true (by rw [h0]; rfl))
      simp only [estafetteref01_Domain.l0]
      rw [if_pos (by rw [List.length_map]; omega), if_pos (by omega), hr.out, if_pos (by rw [toList_mk]; exact h0)]
    have hpl : 0 < p.length := List.length_pos_iff.2 h0
    by_cases h63 : p.length ≤ 63
    case neg =>
      refine Ev.step (fun k => ?_) (j_true (by unfold labelL; rw [decide_eq_false h63]; rfl))
      simp only [estafetteref01_Domain.l0]
      rw [if_pos (by rw [List.length_map]; omega), if_pos (by omega), hr.out, if_neg (by rw [toList_mk]; exact h0), if_pos (by rw [mk_size]; omega)]
    have e0 : p.head? = some p[0] := by rw [List.head?_eq_getElem?, List.getElem?_eq_getElem hpl]
    have e1 : p.getLast? = some p[p.length - 1] := by rw [List.getLast?_eq_getElem?, List.getElem?_eq_getElem (by omega)]
    have hlab : labelL p = (p.all innerB && p[0] != 45 && p[p.length - 1] != 45) := by
      unfold labelL
      rw [decide_eq_true h63, e0, e1, Hand.some_bne, Hand.some_bne]
      cases p with
      | nil => exact absurd rfl h0
      | cons x p => rfl
    by_cases ha : p[0] = 45
    · refine Ev.step (fun k => ?_) (j_true (by rw [hlab, ha]; simp))
      simp only [estafetteref01_Domain.l0]
      have b0 := bt_mk p 0 hpl
      rw [ha] at b0
      rw [if_pos (by rw [List.length_map]; omega), if_pos (by omega), hr.out, if_neg (by rw [toList_mk]; exact h0), if_neg (by rw [mk_size]; omega), if_pos (by rw [mk_size]; omega), if_pos (by exact b0)]
    have hn0 : ¬ bt (mk p) 0 = 45 := fun h => ha ((nat_eq p[0] 45).1 ((bt_mk p 0 hpl).symm.trans h))
    have e3 := w_pred p.length (by omega) hpl
    have hbl := Aside0.mk (bt_mk p (p.length - 1) (by omega))
    by_cases hb : p[p.length - 1] = 45
    · refine Ev.step (fun k => ?_) (j_true (by rw [hlab, hb]; simp))
      simp only [estafetteref01_Domain.l0]
      rw [if_pos (by rw [List.length_map]; omega), if_pos (by omega), hr.out, if_neg (by rw [toList_mk]; exact h0), if_neg (by rw [mk_size]; omega), if_pos (by rw [mk_size]; omega), if_neg hn0, mk_size, e3.out, if_pos (by omega), if_pos (by omega), hbl.out, hb]
      rfl
    · refine Ev.step (fun k => ?_) (j_false (by rw [hlab, show (p[0] != 45) = true from by rw [bne_iff_ne]; exact ha, show (p[p.length - 1] != 45) = true from by rw [bne_iff_ne]; exact hb, Bool.and_true, Bool.and_true]))
      simp only [estafetteref01_Domain.l0]
      rw [if_pos (by rw [List.length_map]; omega), if_pos (by omega), hr.out, if_neg (by rw [toList_mk]; exact h0), if_neg (by rw [mk_size]; omega), if_pos (by rw [mk_size]; omega), if_neg hn0, mk_size, e3.out, if_pos (by omega), if_pos (by omega), hbl.out]
      have : (((p[p.length - 1]).toNat : Int) == 45) = false := by
        rw [beq_eq_false_iff_ne]
        exact fun h => hb ((nat_eq _ 45).1 h)
      rw [this]
theorem refDomain_ev (l : List UInt8) (hs : l.length < 4611686018427387904) : Ev (fun k => estafetteref01_Domain.f k (mk l)) (domainL l) := by
  unfold estafetteref01_Domain.f domainL
  by_cases h : l.length ≤ 255
  · refine ev_neg (by rw [mk_size]; omega) ?_
    rw [decide_eq_true h, Bool.true_and]
    refine Ev.bind (g := fun k => estafetteref01_Cut.f k (mk l) 46) (cut_ev l 46 (by omega)) ?_
    have hc := parts_count 46 l
    have hcl := List.count_le_length (a := 46) (l := l)
    have := domain_loops (parts 46 l) (by omega) (fun p hp => by have := Hand.parts_len 46 l p hp; omega) _ 0 rfl (Nat.zero_le _)
    rw [List.drop_zero] at this
    exact this
  · refine ev_pos (by rw [mk_size]; omega) (ev_now ?_)
    rw [decide_eq_false h]
    rfl

/-! ## Split, Canon -/
def splitR (l : List UInt8) : ByteArray × ByteArray × Bool := match splitL l with
  | some (a, b) => (mk a, mk b, true)
  | none => (mk [], mk [], false)
theorem take_cut {l a b : List UInt8} {c : UInt8} (h : l = a ++ c :: b) : l.take a.length = a ∧ l.drop (a.length + 1) = b := by
  subst h
  constructor
  · rw [List.take_left]
  · have : a ++ c :: b = (a ++ [c]) ++ b := by simp
    rw [this, show a.length + 1 = (a ++ [c]).length from by simp, List.drop_left]
theorem refSplit_ev (l : List UInt8) (hs : l.length < 4611686018427387904) : Ev (fun k => estafetteref01_Split.f k (mk l)) (splitR l) := by
  unfold estafetteref01_Split.f
  refine Ev.bind (g := fun k => estafetteref01_find.f k (mk l) 64) (find_ev l 64 (by omega)) ?_
  unfold splitR splitL findL
  cases e : cutB 64 l with
  | none => exact ev_pos (by show (-1 : Int) < 0; omega) (ev_now rfl)
  | some q =>
    obtain ⟨a, b⟩ := q
    obtain ⟨h1, h2⟩ := cut_some e
    obtain ⟨h3, h4⟩ := take_cut h1
    have hlen := congrArg List.length h1
    rw [List.length_append, List.length_cons] at hlen
    have e2 := w_succ a.length (by omega)
    have x1 : (mk l).extract 0 a.length = mk a := by rw [extract_mk, List.drop_zero, Nat.sub_zero, h3]
    have x2 : (mk l).extract (a.length + 1) (mk l).size = mk b := by
      rw [extract_mk, h4, List.take_of_length_le]
      rw [mk_size]
      omega
    dsimp only
    refine ev_neg (by omega) (ev_pos (by omega) (ev_pos (by rw [mk_size]; omega) ?_))
    rw [Int.toNat_natCast, x1, e2.out, Int.toNat_natCast, x2]
    refine Ev.bind (refLocal_ev a (by omega)) ?_
    cases ha : localL a with
    | false => exact ev_neg (by simp) (ev_now rfl)
    | true =>
      refine ev_pos rfl (ev_pos (by omega) (ev_pos (by rw [mk_size]; omega) (Ev.bind (refDomain_ev b (by omega)) ?_)))
      cases hb : domainL b with
      | false => exact ev_neg (by simp) (ev_now rfl)
      | true => exact ev_pos rfl (ev_now rfl)
theorem split_len {l a b : List UInt8} (h : splitL l = some (a, b)) : a.length ≤ 64 ∧ b.length ≤ 255 := by
  obtain ⟨_, h2, h3⟩ := split_some h
  unfold localL at h2
  unfold domainL at h3
  rw [Bool.and_eq_true] at h2 h3
  exact ⟨of_decide_eq_true h2.1, of_decide_eq_true h3.1⟩
theorem lowerL_len (l : List UInt8) : (lowerL l).length = l.length := by unfold lowerL; rw [List.length_map]
theorem at_mk : (⟨#[64]⟩ : ByteArray) = mk [64] := rfl
theorem split_eq (l : List UInt8) (hs : l.length < 4611686018427387904) : addr_Split.f (mk l) = some (splitR l) := by
  unfold addr_Split.f
  rw [cut_eq (mk l) 64 (by rw [mk_size]; omega), list_mk, Option.bind_some]
  unfold splitR splitL
  cases e : cutB 64 l with
  | none => rfl
  | some q =>
    obtain ⟨a, b⟩ := q
    show (if true = true then (Hand.addr_Local.f (mk a)).bind _ else _) = _
    rw [if_pos rfl]
    unfold Hand.addr_Local.f Hand.addr_Domain.f
    rw [list_mk, Option.bind_some]
    cases ha : localL a with
    | false => simp only [ha]; rfl
    | true =>
      rw [if_pos rfl]
      show ((some (domainL (mk b).data.toList)).bind _) = _
      rw [list_mk, Option.bind_some]
      cases hb : domainL b with
      | false => simp only [ha, hb]; rfl
      | true => simp only [ha, hb]; rfl
end Go.Proofs.YtljhfaneepehcaaDoor.Addr
