/- The plain statements of chapter 5 (dots): what bodies are as they go, lines as they were, and how long lines and bodies may be, for every input. -/
import Derived.Test.YtpplahmnlgokbaaPBx
import Derived.Lib.Bytes
import Derived.Lib.Strings
namespace Go.Proofs.Ytpplahmnlgokbaa.Dots
open Go.RowKit Go.Proofs.Ytpplahmnlgokbaa.PB Go.Proofs.YtpplahmnlgokbaaW.PrintWords Go.Proofs.YtpplahmnlgokbaaW.PrintLast Go.Proofs.YtpplahmnlgokbaaW.PrintMore
set_option linter.unusedVariables false

theorem app_mk (P : List UInt8) (s : ByteArray) : ((⟨P.toArray⟩ : ByteArray) ++ s) = ⟨(P ++ s.data.toList).toArray⟩ := by
  apply ByteArray.ext
  rw [ByteArray.data_append]
  apply Array.toList_inj.1
  simp
theorem mk_size (P : List UInt8) : (⟨P.toArray⟩ : ByteArray).size = P.length := by
  show P.toArray.size = _
  simp
theorem size_list (s : ByteArray) : s.data.toList.length = s.size := by rw [Array.length_toList]; rfl
theorem bt_list (s : ByteArray) (i : Nat) (h : i < s.size) : bt s (i : Int) = ((s.data.toList[i]'(by rw [size_list]; exact h)).toNat : Int) := by
  unfold bt
  rw [dif_pos (by rw [Int.toNat_natCast]; exact h)]
  rfl

/-! the reference's own functions -/
theorem refSize_loop (l : List ByteArray) (hll : l.length < 4611686018427387904) : ∀ (d i : Nat) (x : Int), l.length - i = d → i ≤ l.length → 0 ≤ x → x + sizeL (l.drop i) < 4611686018427387904 →
    Ev (fun k => estafetteref01_Size.l0 k l x (i : Int)) (x + sizeL (l.drop i)) := by
  intro d
  induction d with
  | zero =>
    intro i x hd hi h0 hx
    rw [List.drop_eq_nil_of_le (by omega)]
    exact Ev.step (f := fun _ => some x) (fun k => by simp only [estafetteref01_Size.l0]; rw [if_neg (by omega)]) (ev_now (by simp [sizeL]))
  | succ d ih =>
    intro i x hd hi h0 hx
    have hl : i < l.length := by omega
    rw [List.drop_eq_getElem_cons hl, sizeL_cons] at hx ⊢
    have e1 : wrap64 ((wrap64 (x + (((l[i]).size : Int)))) + 2) = x + ((l[i].size + 2 : Nat) : Int) := by unfold wrap64; omega
    have e2 : wrap64 ((i : Int) + 1) = ((i + 1 : Nat) : Int) := by unfold wrap64; omega
    refine Ev.step (f := fun k => estafetteref01_Size.l0 k l (x + ((l[i].size + 2 : Nat) : Int)) ((i + 1 : Nat) : Int)) (fun k => ?_) ?_
    · simp only [estafetteref01_Size.l0]
      rw [if_pos (by omega), if_pos (by omega), rd_at l i hl, e1, e2]
    · have := ih (i + 1) (x + ((l[i].size + 2 : Nat) : Int)) (by omega) (by omega) (by omega) (by omega)
      have e3 : x + ((l[i].size + 2 : Nat) : Int) + (sizeL (l.drop (i + 1)) : Int) = x + ((l[i].size + 2 + sizeL (l.drop (i + 1)) : Nat) : Int) := by omega
      rw [e3] at this
      exact this
theorem refSize_ev (l : List ByteArray) (h : sizeL l < 4611686018427387904) : Ev (fun k => estafetteref01_Size.f k l) (sizeL l : Int) := by
  have := refSize_loop l (by have := len_le l; omega) l.length 0 0 (by omega) (by omega) (by omega) (by rw [List.drop_zero]; omega)
  rw [List.drop_zero, Int.zero_add] at this
  exact this
theorem in_loop (s : ByteArray) (c : UInt8) (hs : s.size < 4611686018427387904) : ∀ (d i : Nat), s.size - i = d → i ≤ s.size →
    Ev (fun k => estafetteref01_in.l0 k s (c.toNat : Int) (i : Int)) (decide (c ∈ s.data.toList.drop i)) := by
  intro d
  induction d with
  | zero =>
    intro i hd hi
    rw [List.drop_eq_nil_of_le (by rw [size_list]; omega)]
    exact Ev.step (f := fun _ => some false) (fun k => by simp only [estafetteref01_in.l0]; rw [if_neg (by omega)]) (ev_now (by simp))
  | succ d ih =>
    intro i hd hi
    have hl : i < s.size := by omega
    have hl2 : i < s.data.toList.length := by rw [size_list]; exact hl
    have e2 : wrap64 ((i : Int) + 1) = ((i + 1 : Nat) : Int) := by unfold wrap64; omega
    rw [List.drop_eq_getElem_cons hl2]
    refine Ev.step (f := fun k => if ((s.data.toList[i]).toNat : Int) = (c.toNat : Int) then some true else estafetteref01_in.l0 k s (c.toNat : Int) ((i + 1 : Nat) : Int)) (fun k => ?_) ?_
    · simp only [estafetteref01_in.l0]
      rw [if_pos (by omega), if_pos (by omega), bt_list s i hl, e2]
    · by_cases e : s.data.toList[i] = c
      · exact ev_pos (by rw [e]) (ev_now (by simp [e]))
      · have ne : ¬ ((s.data.toList[i]).toNat : Int) = (c.toNat : Int) := fun h => e (UInt8.toNat_inj.1 (by omega))
        refine ev_neg ne ?_
        have := ih (i + 1) (by omega) (by omega)
        have e3 : decide (c ∈ s.data.toList[i] :: s.data.toList.drop (i + 1)) = decide (c ∈ s.data.toList.drop (i + 1)) := by
          rw [decide_eq_decide, List.mem_cons]
          exact ⟨fun h => h.resolve_left (fun h => e h.symm), .inr⟩
        rw [e3]
        exact this
theorem in_ev (s : ByteArray) (c : UInt8) (hs : s.size < 4611686018427387904) : Ev (fun k => estafetteref01_in.f k s (c.toNat : Int)) (decide (c ∈ s.data.toList)) := by
  have := in_loop s c hs s.size 0 (by omega) (by omega)
  exact this
theorem refGood_loop (l : List ByteArray) (hz : sizeL l < 4611686018427387904) : ∀ (d i : Nat), l.length - i = d → i ≤ l.length →
    Ev (fun k => estafetteref01_Good.l0 k l (i : Int)) ((l.drop i).all lineOk && decide (sizeL l ≤ 65536)) := by
  intro d
  induction d with
  | zero =>
    intro i hd hi
    rw [List.drop_eq_nil_of_le (by omega)]
    refine Ev.step (f := fun k => (estafetteref01_Size.f k l).bind fun t => (some (decide (t ≤ 65536)))) (fun k => by simp only [estafetteref01_Good.l0]; rw [if_neg (by omega)]) ?_
    refine Ev.bind (refSize_ev l hz) (ev_now ?_)
    rw [List.all_nil, Bool.true_and, decide_eq_decide]
    omega
  | succ d ih =>
    intro i hd hi
    have hl : i < l.length := by omega
    have hll : l.length < 4611686018427387904 := by have := len_le l; omega
    have hsz : l[i].size < 4611686018427387904 := by
      have h1 := sizeL_drop l i
      rw [List.drop_eq_getElem_cons hl, sizeL_cons] at h1
      omega
    rw [List.drop_eq_getElem_cons hl, List.all_cons]
    have e2 : wrap64 ((i : Int) + 1) = ((i + 1 : Nat) : Int) := by unfold wrap64; omega
    refine Ev.step (f := fun k => if (l[i].size : Int) > 997 then (some false) else ((estafetteref01_in.f k l[i] 0).bind fun t116 => (if t116 = true then (some false) else ((estafetteref01_in.f k l[i] 10).bind fun t118 => (if t118 = true then (some false) else ((estafetteref01_in.f k l[i] 13).bind fun t120 => (if t120 = true then (some false) else (estafetteref01_Good.l0 k l ((i + 1 : Nat) : Int))))))))) (fun k => ?_) ?_
    · simp only [estafetteref01_Good.l0]
      rw [if_pos (by omega), if_pos (by omega), rd_at l i hl, e2]
    · have hno : lineOk l[i] ≠ true → false = (lineOk l[i] && (l.drop (i + 1)).all lineOk && decide (sizeL l ≤ 65536)) := by
        intro h
        have h' : lineOk l[i] = false := by simpa using h
        rw [h']
        simp
      have hiff := lineOk_iff l[i]
      by_cases c3 : (l[i].size : Int) > 997
      · exact ev_pos c3 (ev_now (hno fun h => by have := (hiff.1 h).1; omega))
      refine ev_neg c3 (Ev.bind (in_ev l[i] 0 hsz) ?_)
      by_cases c0 : (0 : UInt8) ∈ l[i].data.toList
      · exact ev_pos (decide_eq_true c0) (ev_now (hno fun h => (hiff.1 h).2.1 c0))
      refine ev_neg (by rw [decide_eq_true_iff]; exact c0) (Ev.bind (in_ev l[i] 10 hsz) ?_)
      by_cases c1 : (10 : UInt8) ∈ l[i].data.toList
      · exact ev_pos (decide_eq_true c1) (ev_now (hno fun h => (hiff.1 h).2.2.1 c1))
      refine ev_neg (by rw [decide_eq_true_iff]; exact c1) (Ev.bind (in_ev l[i] 13 hsz) ?_)
      by_cases c2 : (13 : UInt8) ∈ l[i].data.toList
      · exact ev_pos (decide_eq_true c2) (ev_now (hno fun h => (hiff.1 h).2.2.2 c2))
      refine ev_neg (by rw [decide_eq_true_iff]; exact c2) ?_
      have hok : lineOk l[i] = true := hiff.2 ⟨by omega, c0, c1, c2⟩
      rw [hok, Bool.true_and]
      exact ih (i + 1) (by omega) (by omega)
theorem refGood_ev (l : List ByteArray) (h : sizeL l < 4611686018427387904) : Ev (fun k => estafetteref01_Good.f k l) (goodB l) := by
  have := refGood_loop l h l.length 0 (by omega) (by omega)
  rw [List.drop_zero] at this
  exact this
theorem head_bt (s : ByteArray) (h : 0 < s.size) : bt s 0 = 46 ↔ s.data.toList.head? = some 46 := by
  have hl : 0 < s.data.toList.length := by rw [size_list]; exact h
  have e := bt_list s 0 h
  rw [show ((0 : Nat) : Int) = 0 from rfl] at e
  rw [e, List.head?_eq_getElem?, List.getElem?_eq_getElem hl, Option.some.injEq]
  constructor
  · intro h1
    exact UInt8.toNat_inj.1 (by have : (46 : UInt8).toNat = 46 := rfl; omega)
  · intro h1
    rw [h1]
    rfl
theorem refStuff_loop (l : List ByteArray) (hz : sizeL l < 1000000000) : ∀ (d i : Nat), l.length - i = d → i ≤ l.length →
    Ev (fun k => estafetteref01_Stuff.l0 k l ⟨(stuffL (l.take i)).toArray⟩ (i : Int)) ⟨(stuffed l).toArray⟩ := by
  intro d
  have hlen := len_le l
  have hall : ∀ i, (stuffL (l.take i)).length ≤ 1500000000 := by
    intro i
    have h1 := stuffL_len (l.take i)
    have h2 := sizeL_append (l.take i) (l.drop i)
    rw [List.take_append_drop] at h2
    have h3 : (l.take i).length ≤ l.length := (by rw [List.length_take]; omega)
    omega
  induction d with
  | zero =>
    intro i hd hi
    have hi' : i = l.length := by omega
    have h1 := hall i
    refine Ev.step (f := fun _ => some ((⟨(stuffL (l.take i)).toArray⟩ : ByteArray) ++ (⟨#[46, 13, 10]⟩ : ByteArray))) (fun k => ?_) (ev_now ?_)
    · simp only [estafetteref01_Stuff.l0]
      rw [if_neg (by omega), if_pos (by rw [mk_size]; omega)]
    · rw [app_mk, hi', List.take_length]
      rfl
  | succ d ih =>
    intro i hd hi
    have hl : i < l.length := by omega
    have h1 := hall i
    have h2 := hall (i + 1)
    have e2 : wrap64 ((i : Int) + 1) = ((i + 1 : Nat) : Int) := by unfold wrap64; omega
    have hs := stuffL_snoc l i hl
    have hsz : l[i].size ≤ (stuff1 l[i]).length := by unfold stuff1; rw [List.length_append, List.length_append, size_list]; omega
    rw [hs, List.length_append] at h2
    have hdot : l[i].data.toList.head? = some 46 → stuff1 l[i] = [46] ++ l[i].data.toList ++ [13, 10] := fun h => by unfold stuff1; rw [if_pos h]
    have hno : ¬ l[i].data.toList.head? = some 46 → stuff1 l[i] = l[i].data.toList ++ [13, 10] := fun h => by unfold stuff1; rw [if_neg h, List.nil_append]
    have hnext := ih (i + 1) (by omega) (by omega)
    rw [hs] at hnext
    have plain : ¬ l[i].data.toList.head? = some 46 → Ev (fun k => if (⟨(stuffL (l.take i)).toArray⟩ : ByteArray).size + l[i].size ≤ 9223372036854775807 then (if ((⟨(stuffL (l.take i)).toArray⟩ : ByteArray) ++ l[i]).size + 2 ≤ 9223372036854775807 then (estafetteref01_Stuff.l0 k l (((⟨(stuffL (l.take i)).toArray⟩ : ByteArray) ++ l[i]) ++ (⟨#[13, 10]⟩ : ByteArray)) ((i + 1 : Nat) : Int)) else none) else none) (⟨(stuffed l).toArray⟩ : ByteArray) := by
      intro h
      refine ev_pos (by rw [mk_size]; omega) (ev_pos (by rw [ByteArray.size_append, mk_size]; omega) ?_)
      rw [app_mk, app_mk, List.append_assoc]
      rw [hno h] at hnext
      exact hnext
    by_cases c0 : l[i].size = 0
    · have hh : ¬ l[i].data.toList.head? = some 46 := by
        have : l[i].data.toList = [] := List.eq_nil_of_length_eq_zero (by rw [size_list]; exact c0)
        rw [this]
        simp
      refine Ev.step (fun k => ?_) (plain hh)
      simp only [estafetteref01_Stuff.l0]
      rw [if_pos (by omega), if_pos (by omega), rd_at l i hl, if_neg (by omega), e2]
    · by_cases hh : l[i].data.toList.head? = some 46
      · refine Ev.step (f := fun k => if (⟨(stuffL (l.take i)).toArray⟩ : ByteArray).size + 1 ≤ 9223372036854775807 then (if ((⟨(stuffL (l.take i)).toArray⟩ : ByteArray) ++ (⟨#[46]⟩ : ByteArray)).size + l[i].size ≤ 9223372036854775807 then (if (((⟨(stuffL (l.take i)).toArray⟩ : ByteArray) ++ (⟨#[46]⟩ : ByteArray)) ++ l[i]).size + 2 ≤ 9223372036854775807 then (estafetteref01_Stuff.l0 k l ((((⟨(stuffL (l.take i)).toArray⟩ : ByteArray) ++ (⟨#[46]⟩ : ByteArray)) ++ l[i]) ++ (⟨#[13, 10]⟩ : ByteArray)) ((i + 1 : Nat) : Int)) else none) else none) else none) (fun k => ?_) ?_
        · simp only [estafetteref01_Stuff.l0]
          rw [if_pos (by omega), if_pos (by omega), rd_at l i hl, if_pos (by omega), if_pos (by omega), if_pos ((head_bt _ (by omega)).2 hh), e2]
        · have h46 : (⟨#[46]⟩ : ByteArray).size = 1 := rfl
          refine ev_pos (by rw [mk_size]; omega) (ev_pos (by rw [ByteArray.size_append, mk_size, h46]; omega) (ev_pos (by rw [ByteArray.size_append, ByteArray.size_append, mk_size, h46]; omega) ?_))
          rw [app_mk, app_mk, app_mk]
          rw [hdot hh] at hnext
          simpa [List.append_assoc] using hnext
      · refine Ev.step (fun k => ?_) (plain hh)
        simp only [estafetteref01_Stuff.l0]
        rw [if_pos (by omega), if_pos (by omega), rd_at l i hl, if_pos (by omega), if_pos (by omega), if_neg (fun c => hh ((head_bt _ (by omega)).1 c)), e2]
theorem refStuff_ev (l : List ByteArray) (hz : sizeL l < 1000000000) : Ev (fun k => estafetteref01_Stuff.f k l) ⟨(stuffed l).toArray⟩ := by
  have := refStuff_loop l hz l.length 0 (by omega) (by omega)
  exact this
theorem refUnstuff_eq (s : ByteArray) : estafetteref01_Unstuff.f s = some (if s.data.toList = [46] then (⟨#[]⟩, true) else if s.data.toList.head? = some 46 then (s.extract 1 s.size, false) else (s, false)) := by
  unfold estafetteref01_Unstuff.f
  rw [Lib.toList_data]
  by_cases c : s.data.toList = [46]
  · rw [if_pos c, if_pos c]
  rw [if_neg c, if_neg c]
  by_cases c0 : s.size = 0
  · have : s.data.toList = [] := List.eq_nil_of_length_eq_zero (by rw [size_list]; exact c0)
    rw [if_neg (by omega), this, if_neg (by simp)]
  · rw [if_pos (by omega), if_pos (by omega)]
    by_cases h : s.data.toList.head? = some 46
    · rw [if_pos ((head_bt s (by omega)).2 h), if_pos (by omega), if_pos h]
    · rw [if_neg (fun k => h ((head_bt s (by omega)).1 k)), if_neg h]
theorem unstuff_eq (s : ByteArray) : dots_Unstuff.f s = some (if s.data.toList = [46] then (⟨#[]⟩, true) else if s.data.toList.head? = some 46 then (s.extract 1 s.size, false) else (s, false)) := by
  unfold dots_Unstuff.f
  rw [Lib.toList_data]
  by_cases c : s.data.toList = [46]
  · rw [if_pos c, if_pos c]
  rw [if_neg c, if_neg c]
  have e1 : (⟨#[46]⟩ : ByteArray).size = 1 := rfl
  unfold strings_TrimPrefix.f stringslite_TrimPrefix.f stringslite_HasPrefix.f
  rw [e1]
  by_cases c0 : s.size = 0
  · have : s.data.toList = [] := List.eq_nil_of_length_eq_zero (by rw [size_list]; exact c0)
    have n1 : ¬ ((s.size : Int) ≥ ((1 : Nat) : Int)) := by omega
    have n2 : ¬ s.data.toList.head? = some 46 := by rw [this]; simp
    rw [if_neg n1, if_neg n2]
    rfl
  · have n1 : (s.size : Int) ≥ ((1 : Nat) : Int) := by omega
    rw [if_pos n1, if_pos (by omega), if_pos (by omega)]
    have e3 : (((s.extract 0 ((1 : Nat) : Int).toNat).toList == (⟨#[46]⟩ : ByteArray).toList) = true) ↔ s.data.toList.head? = some 46 := by
      rw [beq_iff_eq, Lib.toList_data, Lib.toList_data]
      show (s.extract 0 1).data.toList = [46] ↔ _
      rw [ByteArray.data_extract]
      have hl : 0 < s.data.toList.length := by rw [size_list]; omega
      obtain ⟨a, t, ht⟩ : ∃ a t, s.data.toList = a :: t := List.exists_cons_of_length_pos hl
      simp [ht]
    by_cases h : s.data.toList.head? = some 46
    · rw [if_pos h]
      simp only [Option.bind_some]
      rw [if_pos (e3.2 h), if_pos (by omega), if_pos (by omega)]
      rfl
    · rw [if_neg h]
      simp only [Option.bind_some]
      rw [if_neg (fun k => h (e3.1 k))]
      rfl
theorem answers_eq : estafettelaw05_answers.f = some true := by
  unfold estafettelaw05_answers.f
  have e1 : Hand.dots_Stuff.f [(⟨#[46, 97]⟩ : ByteArray)] = some (⟨#[46, 46, 97, 13, 10, 46, 13, 10]⟩, 0) := by
    have h1 : sizeL [(⟨#[46, 97]⟩ : ByteArray)] = 4 := rfl
    have h2 : goodB [(⟨#[46, 97]⟩ : ByteArray)] = true := by decide
    have h3 : stuffed [(⟨#[46, 97]⟩ : ByteArray)] = [46, 46, 97, 13, 10, 46, 13, 10] := by decide
    unfold Hand.dots_Stuff.f
    rw [h1, if_pos (by omega), if_pos h2, h3]
  rw [e1, unstuff_eq]
  rw [if_neg (by decide), if_pos (by decide)]
  simp only [Option.bind_some]
  have h4 : ((⟨#[46, 46, 97]⟩ : ByteArray).extract 1 (⟨#[46, 46, 97]⟩ : ByteArray).size).data.toList = [46, 97] := by
    rw [ByteArray.data_extract]
    rfl
  rw [Lib.toList_data, if_pos rfl, Lib.toList_data, if_pos h4]
  rfl

/-! the four statements -/
def sumS (l : List ByteArray) : Nat := (l.map fun s => s.size).sum
theorem sumS_sizeL (l : List ByteArray) : sizeL l = sumS l + 2 * l.length := by
  induction l with
  | nil => rfl
  | cons s l ih => rw [sizeL_cons, ih, List.length_cons]; simp only [sumS, List.map_cons, List.sum_cons]; omega
theorem small_loop (l : List ByteArray) (hb : ∀ s ∈ l, s.size ≤ 140737488351232) (hll : l.length ≤ 140737488351232) : ∀ (d i : Nat) (x : Int), l.length - i = d → i ≤ l.length → 0 ≤ x → x < 140737488551232 →
    ∃ b, Ev (fun k => estafettelaw05_small.l0 k l x (i : Int)) b ∧ (b = true → x + sumS (l.drop i) < 200000 ∧ l.length < 1000) := by
  intro d
  induction d with
  | zero =>
    intro i x hd hi h0 hx
    by_cases c : x < 200000
    · refine ⟨decide ((l.length : Int) < 1000), Ev.step (f := fun _ => some (decide ((l.length : Int) < 1000))) (fun k => by simp only [estafettelaw05_small.l0]; rw [if_neg (by omega), if_pos c]) (ev_now rfl), fun h => ?_⟩
      rw [List.drop_eq_nil_of_le (by omega)]
      have := of_decide_eq_true h
      simp [sumS]
      omega
    · exact ⟨false, Ev.step (f := fun _ => some false) (fun k => by simp only [estafettelaw05_small.l0]; rw [if_neg (by omega), if_neg c]) (ev_now rfl), fun h => by cases h⟩
  | succ d ih =>
    intro i x hd hi h0 hx
    have hl : i < l.length := by omega
    by_cases c : x < 200000
    · have hs := hb l[i] (List.getElem_mem hl)
      have e1 : wrap64 (x + ((l[i]).size : Int)) = x + ((l[i]).size : Int) := by unfold wrap64; omega
      have e2 : wrap64 ((i : Int) + 1) = ((i + 1 : Nat) : Int) := by unfold wrap64; omega
      obtain ⟨b, hb1, hb2⟩ := ih (i + 1) (x + ((l[i]).size : Int)) (by omega) (by omega) (by omega) (by omega)
      refine ⟨b, Ev.step (fun k => by simp only [estafettelaw05_small.l0]; rw [if_pos (by omega), if_pos c, if_pos (by omega), rd_at l i hl, e1, e2]) hb1, fun h => ?_⟩
      have := hb2 h
      rw [List.drop_eq_getElem_cons hl]
      simp only [sumS, List.map_cons, List.sum_cons] at this ⊢
      omega
    · exact ⟨false, Ev.step (f := fun _ => some false) (fun k => by simp only [estafettelaw05_small.l0]; rw [if_pos (by omega), if_neg c]) (ev_now rfl), fun h => by cases h⟩
theorem DotsStuff (l : List ByteArray) (hl : l.length * 16 ≤ 140737488351232) (hb : ∀ s ∈ l, s.size ≤ 140737488351232) : ∃ k, estafettelaw05_DotsStuff.f k l = some true := by
  refine Ev.rounds ?_
  unfold estafettelaw05_DotsStuff.f
  obtain ⟨b, hb1, hb2⟩ := small_loop l hb (by omega) l.length 0 (l.length : Int) (by omega) (by omega) (by omega) (by omega)
  refine Ev.bind (g := fun k => estafettelaw05_small.f k l) hb1 ?_
  rw [answers_eq]
  cases b with
  | false => exact ev_neg (by simp) (ev_some (ev_now rfl))
  | true =>
    refine ev_pos rfl ?_
    have h1 := hb2 rfl
    rw [List.drop_zero] at h1
    have hz := sumS_sizeL l
    have hz2 : sizeL l < 4611686018427387904 := by omega
    have eg : Hand.dots_Good.f l = some (goodB l) := by unfold Hand.dots_Good.f; rw [if_pos hz2]
    have es : Hand.dots_Size.f l = some (sizeL l : Int) := by unfold Hand.dots_Size.f; rw [if_pos hz2]
    have et : Hand.dots_Stuff.f l = some (if goodB l = true then (⟨(stuffed l).toArray⟩, 0) else (⟨#[]⟩, 2)) := by
      unfold Hand.dots_Stuff.f
      rw [if_pos hz2]
      split <;> rfl
    rw [eg, es, et]
    refine ev_some (Ev.bind (refGood_ev l hz2) (ev_some (ev_pos rfl (ev_some ?_))))
    refine ev_neg (by simp) (ev_some (Ev.bind (refSize_ev l hz2) ?_))
    rw [show ((sizeL l : Int) != (sizeL l : Int)) = false from by simp]
    by_cases g : goodB l = true
    · rw [if_pos g, g]
      refine Ev.step (fun k => by simp only [estafettelaw05_DotsStuff.j0]; rw [if_neg (by simp)]) ?_
      exact ev_pos trivial (ev_pos trivial (Ev.bind (refStuff_ev l (by omega)) (ev_now (by simp))))
    · rw [if_neg g]
      have g' : goodB l = false := by simpa using g
      rw [g']
      refine Ev.step (fun k => by simp only [estafettelaw05_DotsStuff.j0]; rw [if_neg (by simp)]) ?_
      exact ev_neg (by simp) (ev_pos trivial (ev_now (by rw [Lib.toList_data]; rfl)))
theorem DotsLines : estafettelaw05_DotsLines.Pure := by
  intro s _
  unfold estafettelaw05_DotsLines.f
  rw [unstuff_eq, refUnstuff_eq, answers_eq]
  simp
theorem num_of_wf {k : IntKind} {x : Int} (h : (Lit.int k x).wf = true) : k.min ≤ x ∧ x ≤ k.max := by
  simpa only [Lit.wf, Bool.and_eq_true, decide_eq_true_eq] using h
theorem xs_ok (n : Nat) : lineOk (⟨(List.replicate n (120 : UInt8)).toArray⟩ : ByteArray) = decide (n ≤ 997) := by
  unfold lineOk
  rw [mk_size, List.length_replicate]
  have : (List.replicate n (120 : UInt8)).toArray.toList.any bad = false := by
    rw [List.any_eq_false]
    intro x hx
    have : x = 120 := by simpa using (List.mem_replicate.1 (by simpa using hx)).2
    subst this
    decide
  rw [this]
  simp
theorem sizeL_replicate (n : Nat) (s : ByteArray) : sizeL (List.replicate n s) = n * (s.size + 2) := by
  induction n with
  | zero => simp [sizeL]
  | succ n ih => rw [List.replicate_succ, sizeL_cons, ih, Nat.succ_mul]; omega
theorem set_next (i n : Nat) (a b : Int) (h : i < n) : (List.replicate i a ++ List.replicate (n - i) b).set i a = List.replicate (i + 1) a ++ List.replicate (n - (i + 1)) b := by
  obtain ⟨q, hq⟩ : ∃ q, n - i = q + 1 := ⟨n - i - 1, by omega⟩
  rw [List.set_append_right _ _ (by rw [List.length_replicate]; exact Nat.le_refl _), List.length_replicate, Nat.sub_self, hq, show n - (i + 1) = q from by omega, List.replicate_succ (n := q), List.set_cons_zero, List.replicate_succ' (n := i), List.append_assoc]
  rfl
theorem extract_xs (n m : Nat) (h : m ≤ n) : (⟨(List.replicate n (120 : UInt8)).toArray⟩ : ByteArray).extract 0 m = ⟨(List.replicate m (120 : UInt8)).toArray⟩ := by
  apply ByteArray.ext
  rw [ByteArray.data_extract]
  apply Array.toList_inj.1
  simp
  omega
structure A1 (a1 : Int) (m : Nat) : Prop where
  out : wrap64 (60 + (wrap64 (Int.tmod a1 20))) = (m : Int)
theorem bounds_two (a1 : Int) (n m : Nat) (hm1 : 60 ≤ m) (hm2 : m ≤ 79) (hn1 : 990 ≤ n) (hn2 : n ≤ 1005) (s : ByteArray) (hs : (⟨(List.replicate n (120 : UInt8)).toArray⟩ : ByteArray) = s) (hss : s.size = n) (hmA : A1 a1 m) : ∀ (d i : Nat), m - i = d → i ≤ m → Ev (fun k => estafettelaw05_DotsBounds.l1 k a1 s (List.replicate i (s.extract 0 900)) (i : Int)) true := by
  intro d
  induction d with
  | zero =>
    intro i hd hi
    have him : i = m := by omega
    subst him
    have he : (s.extract 0 900).size = 900 := by rw [ByteArray.size_extract, hss]; omega
    have hz : sizeL (List.replicate i (s.extract 0 900)) = 902 * i := by rw [sizeL_replicate, he]; omega
    have hex : s.extract 0 900 = ⟨(List.replicate 900 (120 : UInt8)).toArray⟩ := by
      rw [← hs]
      exact extract_xs n 900 (by omega)
    have hg1 : Hand.dots_Good.f [s] = some (decide (n ≤ 997)) := by
      unfold Hand.dots_Good.f
      have : sizeL [s] = n + 2 := by rw [sizeL_cons, hss]; simp [sizeL]
      rw [if_pos (by omega)]
      unfold goodB
      rw [this, List.all_cons, List.all_nil, ← hs, xs_ok]
      simp
      omega
    have hg2 : Hand.dots_Good.f (List.replicate i (s.extract 0 900)) = some (decide ((902 * i : Nat) ≤ 65536)) := by
      unfold Hand.dots_Good.f
      rw [hz, if_pos (by omega)]
      unfold goodB
      rw [hz, hex]
      have : (List.replicate i (⟨(List.replicate 900 (120 : UInt8)).toArray⟩ : ByteArray)).all lineOk = true := by
        rw [List.all_eq_true]
        intro x hx
        rw [(List.mem_replicate.1 hx).2, xs_ok]
        rfl
      rw [this]
      simp
    have hsz : Hand.dots_Size.f (List.replicate i (s.extract 0 900)) = some ((902 * i : Nat) : Int) := by
      unfold Hand.dots_Size.f
      rw [hz, if_pos (by omega)]
    refine Ev.step (fun k => by simp only [estafettelaw05_DotsBounds.l1]; rw [hmA.out, if_neg (by omega)]) ?_
    rw [answers_eq, hg1, hg2, hsz]
    refine ev_some (ev_pos rfl (ev_some (ev_pos ?_ (ev_some (ev_pos ?_ (ev_some (ev_now ?_)))))))
    · rw [hss, beq_iff_eq, decide_eq_decide]
      omega
    · rw [List.length_replicate]
      unfold wrap64
      omega
    · have e5 : wrap64 (902 * ((List.replicate i (s.extract 0 900)).length : Int)) = ((902 * i : Nat) : Int) := by rw [List.length_replicate]; unfold wrap64; omega
      rw [e5, beq_iff_eq, decide_eq_decide]
      omega
  | succ d ih =>
    intro i hd hi
    have e2 : wrap64 ((i : Int) + 1) = ((i + 1 : Nat) : Int) := by unfold wrap64; omega
    refine Ev.step (f := fun k => estafettelaw05_DotsBounds.l1 k a1 s (List.replicate (i + 1) (s.extract 0 900)) ((i + 1 : Nat) : Int)) (fun k => ?_) (ih (i + 1) (by omega) (by omega))
    simp only [estafettelaw05_DotsBounds.l1]
    rw [hmA.out, if_pos (by omega), if_pos (by omega), if_pos (by omega), if_pos (by rw [List.length_replicate]; omega), e2, List.replicate_succ']
theorem bounds_one (a1 : Int) (n m : Nat) (hm1 : 60 ≤ m) (hm2 : m ≤ 79) (hn1 : 990 ≤ n) (hn2 : n ≤ 1005) (s : ByteArray) (hs : (⟨(List.replicate n (120 : UInt8)).toArray⟩ : ByteArray) = s) (hss : s.size = n) (hmA : A1 a1 m) : ∀ (d i : Nat), n - i = d → i ≤ n → Ev (fun k => estafettelaw05_DotsBounds.l0 k a1 (List.replicate i 120 ++ List.replicate (n - i) 0) (i : Int)) true := by
  intro d
  induction d with
  | zero =>
    intro i hd hi
    have him : i = n := by omega
    subst him
    refine Ev.step (fun k => by simp only [estafettelaw05_DotsBounds.l0]; rw [if_neg (by simp)]) ?_
    rw [Nat.sub_self, List.replicate_zero, List.append_nil]
    have e : strOfNums (List.replicate i 120) = s := by
      rw [← hs]
      apply ByteArray.ext
      apply Array.toList_inj.1
      have := Lib.strOfNums_toList (List.replicate i 120)
      rw [Lib.toList_data] at this
      rw [this]
      simp [Lib.bytesOf]
    rw [e]
    exact bounds_two a1 i m hm1 hm2 hn1 hn2 s hs hss hmA m 0 (by omega) (by omega)
  | succ d ih =>
    intro i hd hi
    have e2 : wrap64 ((i : Int) + 1) = ((i + 1 : Nat) : Int) := by unfold wrap64; omega
    refine Ev.step (f := fun k => estafettelaw05_DotsBounds.l0 k a1 (List.replicate (i + 1) 120 ++ List.replicate (n - (i + 1)) 0) ((i + 1 : Nat) : Int)) (fun k => ?_) (ih (i + 1) (by omega) (by omega))
    simp only [estafettelaw05_DotsBounds.l0]
    rw [if_pos (by rw [List.length_append, List.length_replicate, List.length_replicate]; omega), if_pos (by omega), e2, Int.toNat_natCast]
    refine congrArg (fun z => estafettelaw05_DotsBounds.l0 k a1 z ((i + 1 : Nat) : Int)) ?_
    exact set_next i n 120 0 (by omega)
theorem DotsBounds : estafettelaw05_DotsBounds.Pure := by
  intro a0 a1 w0 w1
  have h0 : 0 ≤ a0 ∧ a0 ≤ 255 := num_of_wf w0
  have h1 : 0 ≤ a1 ∧ a1 ≤ 255 := num_of_wf w1
  refine Ev.rounds ?_
  unfold estafettelaw05_DotsBounds.f
  obtain ⟨n, hn, hn1, hn2⟩ : ∃ n : Nat, wrap64 (990 + (wrap64 (Int.tmod a0 16))) = (n : Int) ∧ 990 ≤ n ∧ n ≤ 1005 := by
    refine ⟨(990 + a0 % 16).toNat, ?_, by omega, by omega⟩
    rw [Int.tmod_eq_emod_of_nonneg h0.1]
    unfold wrap64
    omega
  obtain ⟨m, hm, hm1, hm2⟩ : ∃ m : Nat, wrap64 (60 + (wrap64 (Int.tmod a1 20))) = (m : Int) ∧ 60 ≤ m ∧ m ≤ 79 := by
    refine ⟨(60 + a1 % 20).toNat, ?_, by omega, by omega⟩
    rw [Int.tmod_eq_emod_of_nonneg h1.1]
    unfold wrap64
    omega
  rw [hn, Int.toNat_natCast]
  refine ev_pos (by omega) (ev_pos (by omega) ?_)
  generalize hs : (⟨(List.replicate n (120 : UInt8)).toArray⟩ : ByteArray) = s
  have hss : s.size = n := by rw [← hs, mk_size, List.length_replicate]
  have := bounds_one a1 n m hm1 hm2 hn1 hn2 s hs hss ⟨hm⟩ n 0 (Nat.sub_zero n) (Nat.zero_le n)
  simpa using this
end Go.Proofs.Ytpplahmnlgokbaa.Dots
