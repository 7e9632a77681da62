/- Which bodies may be, by the program and by the document (taken over from the chapter 5 texts). -/
import Derived.Test.YtljhfaneepehcaaDoorPBx7
import Derived.Test.YtljhfaneepehcaaDoorAddrRefC
import Derived.Lib.IndexLaws
import Derived.Lib.Bytes
import Derived.Lib.Strings
namespace Go.Proofs.YtljhfaneepehcaaDoor.Dots
open Go.RowKit Go.Proofs.YtljhfaneepehcaaDoor.PB Go.Proofs.YtljhfaneepehcaaDoorW.PrintWords Go.Proofs.YtljhfaneepehcaaDoorW.PrintLast Go.Proofs.YtljhfaneepehcaaDoorW.PrintMore
set_option linter.unusedVariables false
theorem ev_pos {α : Type} {c : Prop} [Decidable c] {f g : Nat → Option α} {r : α} (h : c) (k : Ev f r) : Ev (fun n => if c then f n else g n) r := k.congr fun _ => if_pos h
theorem ev_neg {α : Type} {c : Prop} [Decidable c] {f g : Nat → Option α} {r : α} (h : ¬ c) (k : Ev g r) : Ev (fun n => if c then f n else g n) r := k.congr fun _ => if_neg h
theorem ev_some {α β : Type} {a : α} {f : Nat → α → Option β} {r : β} (k : Ev (fun n => f n a) r) : Ev (fun n => (some a).bind (f n)) r := Ev.bind (Ev.now a) k
theorem ev_now {α : Type} {a r : α} (h : a = r) : Ev (fun _ => some a) r := h ▸ Ev.now a

def sizeL (l : List ByteArray) : Nat := (l.map fun s => s.size + 2).sum
def bad (c : UInt8) : Bool := c == 0 || c == 10 || c == 13
def lineOk (s : ByteArray) : Bool := decide (s.size ≤ 997) && !s.data.toList.any bad
def goodB (l : List ByteArray) : Bool := l.all lineOk && decide (sizeL l ≤ 65536)
theorem sizeL_cons (s : ByteArray) (l : List ByteArray) : sizeL (s :: l) = s.size + 2 + sizeL l := by simp [sizeL]
theorem sizeL_append (a b : List ByteArray) : sizeL (a ++ b) = sizeL a + sizeL b := by simp [sizeL]
theorem len_le (l : List ByteArray) : 2 * l.length ≤ sizeL l := by
  induction l with
  | nil => simp [sizeL]
  | cons s l ih => rw [sizeL_cons, List.length_cons]; omega
theorem good_len (l : List ByteArray) (h : goodB l = true) : l.length ≤ 32768 := by
  unfold goodB at h
  have h2 : sizeL l ≤ 65536 := by
    rw [Bool.and_eq_true] at h
    exact of_decide_eq_true h.2
  have := len_le l
  omega
theorem rd_at (l : List ByteArray) (i : Nat) (h : i < l.length) : rdOf ByteArray.empty l (i : Int) = l[i] := by unfold rdOf; simp [List.getD_eq_getElem?_getD, h]
theorem sizeL_drop (l : List ByteArray) (i : Nat) : sizeL (l.drop i) ≤ sizeL l := by
  have := congrArg sizeL (List.take_append_drop i l)
  rw [sizeL_append] at this
  omega

theorem size_loop (l : List ByteArray) (hll : l.length < 4611686018427387904) : ∀ (d i : Nat) (x : Int), l.length - i = d → i ≤ l.length → 0 ≤ x → x + sizeL (l.drop i) < 4611686018427387904 →
    Ev (fun k => dots_Size.l0 k x l (l.length : Int) (i : Int)) (x + sizeL (l.drop i)) := by
  intro d
  induction d with
  | zero =>
    intro i x hd hi h0 hx
    rw [List.drop_eq_nil_of_le (by omega)]
    exact Ev.step (f := fun _ => some x) (fun k => by simp only [dots_Size.l0]; rw [if_neg (by omega)]) (ev_now (by simp [sizeL]))
  | succ d ih =>
    intro i x hd hi h0 hx
    have hl : i < l.length := by omega
    rw [List.drop_eq_getElem_cons hl, sizeL_cons] at hx ⊢
    have e1 : wrap64 (x + (wrap64 (((l[i]).size : Int) + 2))) = x + ((l[i].size + 2 : Nat) : Int) := by unfold wrap64; omega
    have e2 : wrap64 ((i : Int) + 1) = ((i + 1 : Nat) : Int) := by unfold wrap64; omega
    refine Ev.step (f := fun k => dots_Size.l0 k (x + ((l[i].size + 2 : Nat) : Int)) l (l.length : Int) ((i + 1 : Nat) : Int)) (fun k => ?_) ?_
    · simp only [dots_Size.l0]
      rw [if_pos (by omega), if_pos (by omega), if_pos (by omega), rd_at l i hl, e1, e2]
    · have := ih (i + 1) (x + ((l[i].size + 2 : Nat) : Int)) (by omega) (by omega) (by omega) (by omega)
      have e3 : x + ((l[i].size + 2 : Nat) : Int) + (sizeL (l.drop (i + 1)) : Int) = x + ((l[i].size + 2 + sizeL (l.drop (i + 1)) : Nat) : Int) := by omega
      rw [e3] at this
      exact this
theorem size_ev (l : List ByteArray) (h : sizeL l < 4611686018427387904) : Ev (fun k => dots_Size.f k l) (sizeL l : Int) := by
  have := size_loop l (by have := len_le l; omega) l.length 0 0 (by omega) (by omega) (by omega) (by rw [List.drop_zero]; omega)
  rw [List.drop_zero, Int.zero_add] at this
  exact this

theorem idx_mem (l : List UInt8) (c : UInt8) : Lib.indexByte l c ≥ 0 ↔ c ∈ l := by
  have hge := Lib.indexByte_ge l c
  constructor
  · intro h
    obtain ⟨o, ho⟩ := Int.eq_ofNat_of_zero_le h
    exact List.mem_of_getElem? (Lib.indexByte_some ho).1
  · intro h
    obtain ⟨k, hk⟩ := List.getElem?_of_mem h
    by_cases c0 : Lib.indexByte l c = -1
    · exact absurd hk (Lib.indexByte_none c0 k)
    · omega
theorem lineOk_iff (s : ByteArray) : lineOk s = true ↔ s.size ≤ 997 ∧ ¬ (0 : UInt8) ∈ s.data.toList ∧ ¬ (10 : UInt8) ∈ s.data.toList ∧ ¬ (13 : UInt8) ∈ s.data.toList := by
  unfold lineOk
  rw [Bool.and_eq_true, decide_eq_true_iff, Bool.not_eq_true', List.any_eq_false]
  constructor
  · rintro ⟨h1, h2⟩
    exact ⟨h1, fun m => h2 _ m rfl, fun m => h2 _ m rfl, fun m => h2 _ m rfl⟩
  · rintro ⟨h1, h2, h3, h4⟩
    refine ⟨h1, fun x hx hb => ?_⟩
    unfold bad at hb
    simp only [Bool.or_eq_true, beq_iff_eq] at hb
    rcases hb with (rfl | rfl) | rfl
    · exact h2 hx
    · exact h3 hx
    · exact h4 hx
theorem good_loop (l : List ByteArray) (hz : sizeL l < 4611686018427387904) : ∀ (d i : Nat), l.length - i = d → i ≤ l.length →
    Ev (fun k => dots_Good.l0 k l l (l.length : Int) (i : Int)) ((l.drop i).all lineOk && decide (sizeL l ≤ 65536)) := by
  intro d
  induction d with
  | zero =>
    intro i hd hi
    rw [List.drop_eq_nil_of_le (by omega)]
    refine Ev.step (f := fun k => (dots_Size.f k l).bind fun t => (some (decide (t ≤ 65536)))) (fun k => by simp only [dots_Good.l0]; rw [if_neg (by omega)]) ?_
    refine Ev.bind (size_ev l hz) (ev_now ?_)
    rw [List.all_nil, Bool.true_and, decide_eq_decide]
    omega
  | succ d ih =>
    intro i hd hi
    have hl : i < l.length := by omega
    have hll : l.length < 4611686018427387904 := by have := len_le l; omega
    rw [List.drop_eq_getElem_cons hl, List.all_cons]
    have e2 : wrap64 ((i : Int) + 1) = ((i + 1 : Nat) : Int) := by unfold wrap64; omega
    refine Ev.step (f := fun k => ((Hand.strings_IndexByte.f l[i] 0).bind fun t104 => (if t104 ≥ 0 then (some false) else ((Hand.strings_IndexByte.f l[i] 10).bind fun t105 => (if t105 ≥ 0 then (some false) else ((Hand.strings_IndexByte.f l[i] 13).bind fun t106 => (if t106 ≥ 0 then (some false) else (if (l[i].size : Int) > 997 then (some false) else (dots_Good.l0 k l l (l.length : Int) ((i + 1 : Nat) : Int)))))))))) (fun k => ?_) ?_
    · simp only [dots_Good.l0]
      rw [if_pos (by omega), if_pos (by omega), if_pos (by omega), rd_at l i hl, e2]
    · have hno : lineOk l[i] ≠ true → false = (lineOk l[i] && (l.drop (i + 1)).all lineOk && decide (sizeL l ≤ 65536)) := by
        intro h
        have h' : lineOk l[i] = false := by simpa using h
        rw [h']
        simp
      have hiff := lineOk_iff l[i]
      refine ev_some ?_
      by_cases c0 : Lib.indexByte l[i].data.toList (0 : Int).toNat.toUInt8 ≥ 0
      · exact ev_pos c0 (ev_now (hno fun h => (hiff.1 h).2.1 ((idx_mem _ _).1 c0)))
      refine ev_neg c0 (ev_some ?_)
      by_cases c1 : Lib.indexByte l[i].data.toList (10 : Int).toNat.toUInt8 ≥ 0
      · exact ev_pos c1 (ev_now (hno fun h => (hiff.1 h).2.2.1 ((idx_mem _ _).1 c1)))
      refine ev_neg c1 (ev_some ?_)
      by_cases c2 : Lib.indexByte l[i].data.toList (13 : Int).toNat.toUInt8 ≥ 0
      · exact ev_pos c2 (ev_now (hno fun h => (hiff.1 h).2.2.2 ((idx_mem _ _).1 c2)))
      refine ev_neg c2 ?_
      by_cases c3 : (l[i].size : Int) > 997
      · exact ev_pos c3 (ev_now (hno fun h => by have := (hiff.1 h).1; omega))
      refine ev_neg c3 ?_
      have hok : lineOk l[i] = true := hiff.2 ⟨by omega, fun m => c0 ((idx_mem _ _).2 m), fun m => c1 ((idx_mem _ _).2 m), fun m => c2 ((idx_mem _ _).2 m)⟩
      rw [hok, Bool.true_and]
      exact ih (i + 1) (by omega) (by omega)
theorem good_ev (l : List ByteArray) (h : sizeL l < 4611686018427387904) : Ev (fun k => dots_Good.f k l) (goodB l) := by
  have := good_loop l h l.length 0 (by omega) (by omega)
  rw [List.drop_zero] at this
  exact this

/-! a body as it goes -/
def stuff1 (s : ByteArray) : List UInt8 := (if s.data.toList.head? = some 46 then [46] else []) ++ s.data.toList ++ [13, 10]
def stuffL (l : List ByteArray) : List UInt8 := l.flatMap stuff1
def stuffed (l : List ByteArray) : List UInt8 := stuffL l ++ [46, 13, 10]
theorem size_list (s : ByteArray) : s.data.toList.length = s.size := by rw [Array.length_toList]; rfl
theorem bt_list (s : ByteArray) (i : Nat) (h : i < s.size) : bt s (i : Int) = ((s.data.toList[i]'(by rw [size_list]; exact h)).toNat : Int) := by
  unfold bt
  rw [dif_pos (by rw [Int.toNat_natCast]; exact h)]
  rfl

/-! the reference's own functions -/
theorem refSize_loop (l : List ByteArray) (hll : l.length < 4611686018427387904) : ∀ (d i : Nat) (x : Int), l.length - i = d → i ≤ l.length → 0 ≤ x → x + sizeL (l.drop i) < 4611686018427387904 →
    Ev (fun k => estafetteref01_Size.l0 k l x (i : Int)) (x + sizeL (l.drop i)) := by
  intro d
  induction d with
  | zero =>
    intro i x hd hi h0 hx
    rw [List.drop_eq_nil_of_le (by omega)]
    exact Ev.step (f := fun _ => some x) (fun k => by simp only [estafetteref01_Size.l0]; rw [if_neg (by omega)]) (ev_now (by simp [sizeL]))
  | succ d ih =>
    intro i x hd hi h0 hx
    have hl : i < l.length := by omega
    rw [List.drop_eq_getElem_cons hl, sizeL_cons] at hx ⊢
    have e1 : wrap64 ((wrap64 (x + (((l[i]).size : Int)))) + 2) = x + ((l[i].size + 2 : Nat) : Int) := by unfold wrap64; omega
    have e2 : wrap64 ((i : Int) + 1) = ((i + 1 : Nat) : Int) := by unfold wrap64; omega
    refine Ev.step (f := fun k => estafetteref01_Size.l0 k l (x + ((l[i].size + 2 : Nat) : Int)) ((i + 1 : Nat) : Int)) (fun k => ?_) ?_
    · simp only [estafetteref01_Size.l0]
      rw [if_pos (by omega), if_pos (by omega), rd_at l i hl, e1, e2]
    · have := ih (i + 1) (x + ((l[i].size + 2 : Nat) : Int)) (by omega) (by omega) (by omega) (by omega)
      have e3 : x + ((l[i].size + 2 : Nat) : Int) + (sizeL (l.drop (i + 1)) : Int) = x + ((l[i].size + 2 + sizeL (l.drop (i + 1)) : Nat) : Int) := by omega
      rw [e3] at this
      exact this
theorem refSize_ev (l : List ByteArray) (h : sizeL l < 4611686018427387904) : Ev (fun k => estafetteref01_Size.f k l) (sizeL l : Int) := by
  have := refSize_loop l (by have := len_le l; omega) l.length 0 0 (by omega) (by omega) (by omega) (by rw [List.drop_zero]; omega)
  rw [List.drop_zero, Int.zero_add] at this
  exact this
theorem in_loop (s : ByteArray) (c : UInt8) (hs : s.size < 4611686018427387904) : ∀ (d i : Nat), s.size - i = d → i ≤ s.size →
    Ev (fun k => estafetteref01_in.l0 k s (c.toNat : Int) (i : Int)) (decide (c ∈ s.data.toList.drop i)) := by
  intro d
  induction d with
  | zero =>
    intro i hd hi
    rw [List.drop_eq_nil_of_le (by rw [size_list]; omega)]
    exact Ev.step (f := fun _ => some false) (fun k => by simp only [estafetteref01_in.l0]; rw [if_neg (by omega)]) (ev_now (by simp))
  | succ d ih =>
    intro i hd hi
    have hl : i < s.size := by omega
    have hl2 : i < s.data.toList.length := by rw [size_list]; exact hl
    have e2 : wrap64 ((i : Int) + 1) = ((i + 1 : Nat) : Int) := by unfold wrap64; omega
    rw [List.drop_eq_getElem_cons hl2]
    refine Ev.step (f := fun k => if ((s.data.toList[i]).toNat : Int) = (c.toNat : Int) then some true else estafetteref01_in.l0 k s (c.toNat : Int) ((i + 1 : Nat) : Int)) (fun k => ?_) ?_
    · simp only [estafetteref01_in.l0]
      rw [if_pos (by omega), if_pos (by omega), bt_list s i hl, e2]
    · by_cases e : s.data.toList[i] = c
      · exact ev_pos (by rw [e]) (ev_now (by simp [e]))
      · have ne : ¬ ((s.data.toList[i]).toNat : Int) = (c.toNat : Int) := fun h => e (UInt8.toNat_inj.1 (by omega))
        refine ev_neg ne ?_
        have := ih (i + 1) (by omega) (by omega)
        have e3 : decide (c ∈ s.data.toList[i] :: s.data.toList.drop (i + 1)) = decide (c ∈ s.data.toList.drop (i + 1)) := by
          rw [decide_eq_decide, List.mem_cons]
          exact ⟨fun h => h.resolve_left (fun h => e h.symm), .inr⟩
        rw [e3]
        exact this
theorem in_ev (s : ByteArray) (c : UInt8) (hs : s.size < 4611686018427387904) : Ev (fun k => estafetteref01_in.f k s (c.toNat : Int)) (decide (c ∈ s.data.toList)) := by
  have := in_loop s c hs s.size 0 (by omega) (by omega)
  exact this
theorem refGood_loop (l : List ByteArray) (hz : sizeL l < 4611686018427387904) : ∀ (d i : Nat), l.length - i = d → i ≤ l.length →
    Ev (fun k => estafetteref01_Good.l0 k l (i : Int)) ((l.drop i).all lineOk && decide (sizeL l ≤ 65536)) := by
  intro d
  induction d with
  | zero =>
    intro i hd hi
    rw [List.drop_eq_nil_of_le (by omega)]
    refine Ev.step (f := fun k => (estafetteref01_Size.f k l).bind fun t => (some (decide (t ≤ 65536)))) (fun k => by simp only [estafetteref01_Good.l0]; rw [if_neg (by omega)]) ?_
    refine Ev.bind (refSize_ev l hz) (ev_now ?_)
    rw [List.all_nil, Bool.true_and, decide_eq_decide]
    omega
  | succ d ih =>
    intro i hd hi
    have hl : i < l.length := by omega
    have hll : l.length < 4611686018427387904 := by have := len_le l; omega
    have hsz : l[i].size < 4611686018427387904 := by
      have h1 := sizeL_drop l i
      rw [List.drop_eq_getElem_cons hl, sizeL_cons] at h1
      omega
    rw [List.drop_eq_getElem_cons hl, List.all_cons]
    have e2 : wrap64 ((i : Int) + 1) = ((i + 1 : Nat) : Int) := by unfold wrap64; omega
    refine Ev.step (f := fun k => if (l[i].size : Int) > 997 then (some false) else ((estafetteref01_in.f k l[i] 0).bind fun t116 => (if t116 = true then (some false) else ((estafetteref01_in.f k l[i] 10).bind fun t118 => (if t118 = true then (some false) else ((estafetteref01_in.f k l[i] 13).bind fun t120 => (if t120 = true then (some false) else (estafetteref01_Good.l0 k l ((i + 1 : Nat) : Int))))))))) (fun k => ?_) ?_
    · simp only [estafetteref01_Good.l0]
      rw [if_pos (by omega), if_pos (by omega), rd_at l i hl, e2]
    · have hno : lineOk l[i] ≠ true → false = (lineOk l[i] && (l.drop (i + 1)).all lineOk && decide (sizeL l ≤ 65536)) := by
        intro h
        have h' : lineOk l[i] = false := by simpa using h
        rw [h']
        simp
      have hiff := lineOk_iff l[i]
      by_cases c3 : (l[i].size : Int) > 997
      · exact ev_pos c3 (ev_now (hno fun h => by have := (hiff.1 h).1; omega))
      refine ev_neg c3 (Ev.bind (in_ev l[i] 0 hsz) ?_)
      by_cases c0 : (0 : UInt8) ∈ l[i].data.toList
      · exact ev_pos (decide_eq_true c0) (ev_now (hno fun h => (hiff.1 h).2.1 c0))
      refine ev_neg (by rw [decide_eq_true_iff]; exact c0) (Ev.bind (in_ev l[i] 10 hsz) ?_)
      by_cases c1 : (10 : UInt8) ∈ l[i].data.toList
      · exact ev_pos (decide_eq_true c1) (ev_now (hno fun h => (hiff.1 h).2.2.1 c1))
      refine ev_neg (by rw [decide_eq_true_iff]; exact c1) (Ev.bind (in_ev l[i] 13 hsz) ?_)
      by_cases c2 : (13 : UInt8) ∈ l[i].data.toList
      · exact ev_pos (decide_eq_true c2) (ev_now (hno fun h => (hiff.1 h).2.2.2 c2))
      refine ev_neg (by rw [decide_eq_true_iff]; exact c2) ?_
      have hok : lineOk l[i] = true := hiff.2 ⟨by omega, c0, c1, c2⟩
      rw [hok, Bool.true_and]
      exact ih (i + 1) (by omega) (by omega)
theorem refGood_ev (l : List ByteArray) (h : sizeL l < 4611686018427387904) : Ev (fun k => estafetteref01_Good.f k l) (goodB l) := by
  have := refGood_loop l h l.length 0 (by omega) (by omega)
  rw [List.drop_zero] at this
  exact this
end Go.Proofs.YtljhfaneepehcaaDoor.Dots
