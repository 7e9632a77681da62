/- What Decode accepts is what Encode yields: the bytes of the message that it hands back. -/
import Derived.Test.YtljhfaneepehcaaDoorBinBytes
namespace Go.Proofs.YtljhfaneepehcaaDoor.Addr
open Go.RowKit Go.Proofs.YtljhfaneepehcaaDoor.PC Go.Proofs.YtljhfaneepehcaaDoor.PB Go.Proofs.YtljhfaneepehcaaDoorW.PrintWords Go.Proofs.YtljhfaneepehcaaDoorW.PrintLast Go.Proofs.YtljhfaneepehcaaDoorW.PrintMore Go.Proofs.YtljhfaneepehcaaDoor.Hand
set_option linter.unusedVariables false
abbrev St := List Int × Bool
theorem numB_valB_rev (m : List Int) (h : Bytes m.reverse) : numB (valB m.reverse) m.length = m.reverse := by
  induction m with
  | nil => rfl
  | cons x m ih =>
    rw [List.reverse_cons] at h ⊢
    obtain ⟨h3, h4⟩ := h x (List.mem_append_right _ List.mem_cons_self)
    rw [valB_snoc, List.length_cons, numB_snoc]
    have e1 : (valB m.reverse * 256 + x) / 256 = valB m.reverse := by omega
    have e2 : (valB m.reverse * 256 + x) % 256 = x := by omega
    rw [e1, e2, ih (fun y hy => h y (List.mem_append_left _ hy))]
theorem numB_valB (l : List Int) (h : Bytes l) : numB (valB l) l.length = l := by
  have := numB_valB_rev l.reverse (by rw [List.reverse_reverse]; exact h)
  rw [List.reverse_reverse, List.length_reverse] at this
  exact this
theorem take_ok {n : Nat} {st : St} (h : (takeS n st).2.2 = false) : st.2 = false ∧ n ≤ st.1.length ∧ takeS n st = (st.1.take n, (st.1.drop n, false)) := by
  unfold takeS at h ⊢
  split at h
  · cases h
  · rename_i hn
    rw [if_neg hn]
    refine ⟨?_, by omega, rfl⟩
    cases e : st.2 with
    | true => exact absurd (.inl e) hn
    | false => rfl
theorem take_oct {n : Nat} {st : St} (h : Bytes st.1) : Bytes (takeS n st).2.1 := by
  unfold takeS
  split
  · exact h
  · exact fun x hx => h x (List.mem_of_mem_drop hx)
theorem num_ok {size : Nat} {st : St} (hB : Bytes st.1) (h : (numS size st).2.2 = false) : st.2 = false ∧ st.1 = numB (numS size st).1 size ++ (numS size st).2.1 := by
  obtain ⟨h1, h2, h3⟩ := take_ok (st := st) (n := size) h
  refine ⟨h1, ?_⟩
  unfold numS
  rw [h3]
  have hl : (st.1.take size).length = size := by rw [List.length_take]; omega
  have := numB_valB (st.1.take size) (fun x hx => hB x (List.mem_of_mem_take hx))
  rw [hl] at this
  show st.1 = numB (valB (st.1.take size)) size ++ st.1.drop size
  rw [this, List.take_append_drop]
theorem num_oct {size : Nat} {st : St} (h : Bytes st.1) : Bytes (numS size st).2.1 := take_oct h
theorem bytes_str (l : List Int) (h : Bytes l) : bytesOf (strOfNums l) = l := by
  unfold bytesOf strOfNums
  rw [show (⟨(l.map fun n => n.toNat.toUInt8).toArray⟩ : ByteArray).data.toList = l.map fun n => n.toNat.toUInt8 from by simp, List.map_map]
  conv => rhs; rw [← List.map_id l]
  refine List.map_congr_left fun x hx => ?_
  obtain ⟨h1, h2⟩ := h x hx
  show ((x.toNat.toUInt8).toNat : Int) = x
  rw [Nat.toUInt8_eq, UInt8.toNat_ofNat']
  omega
theorem text_ok {st : St} (hB : Bytes st.1) (h : (textS st).2.2 = false) : st.2 = false ∧ st.1 = textB (textS st).1 ++ (textS st).2.1 := by
  obtain ⟨h1, h2, h3⟩ := take_ok (st := (numS 2 st).2) (n := (numS 2 st).1.toNat) h
  obtain ⟨g1, g2⟩ := num_ok hB h1
  have hq := numS_bound 2 st hB (by omega)
  have ho := num_oct (size := 2) hB
  refine ⟨g1, ?_⟩
  unfold textS
  rw [h3]
  have hl : ((numS 2 st).2.1.take (numS 2 st).1.toNat).length = (numS 2 st).1.toNat := by rw [List.length_take]; omega
  have hb := bytes_str ((numS 2 st).2.1.take (numS 2 st).1.toNat) (fun x hx => ho x (List.mem_of_mem_take hx))
  have hs : ((strOfNums ((numS 2 st).2.1.take (numS 2 st).1.toNat)).size : Int) = (numS 2 st).1 := by
    rw [← bytesOf_length, hb, hl]
    omega
  show st.1 = textB (strOfNums ((numS 2 st).2.1.take (numS 2 st).1.toNat)) ++ (numS 2 st).2.1.drop (numS 2 st).1.toNat
  unfold textB
  rw [hs, hb, List.append_assoc, List.take_append_drop]
  exact g2
theorem text_oct {st : St} (h : Bytes st.1) : Bytes (textS st).2.1 := take_oct (take_oct h)
theorem loop_ok {α : Type} (one : St → α × St) (F : α → List Int) (h1 : ∀ st : St, Bytes st.1 → (one st).2.2 = false → st.2 = false ∧ st.1 = F (one st).1 ++ (one st).2.1) (h2 : ∀ st : St, Bytes st.1 → Bytes (one st).2.1) : ∀ (n : Nat) (st : St), Bytes st.1 → (loopS one n st).2.2 = false → st.2 = false ∧ (loopS one n st).1.length = n ∧ st.1 = (loopS one n st).1.flatMap F ++ (loopS one n st).2.1 := by
  intro n
  induction n with
  | zero => exact fun st hB h => ⟨h, rfl, rfl⟩
  | succ n ih =>
    intro st hB h
    rw [loopS] at h ⊢
    cases e : st.2 with
    | true =>
      rw [e, if_pos rfl] at h
      rw [e] at h
      cases h
    | false =>
      rw [e, if_neg (by decide)] at h
      rw [if_neg (by decide)]
      obtain ⟨i1, i2, i3⟩ := ih (one st).2 (h2 st hB) h
      obtain ⟨j1, j2⟩ := h1 st hB i1
      refine ⟨rfl, by rw [List.length_cons, i2], ?_⟩
      rw [List.flatMap_cons, List.append_assoc, ← i3]
      exact j2
theorem loop_oct {α : Type} (one : St → α × St) (h2 : ∀ st : St, Bytes st.1 → Bytes (one st).2.1) : ∀ (n : Nat) (st : St), Bytes st.1 → Bytes (loopS one n st).2.1 := by
  intro n
  induction n with
  | zero => exact fun st hB => hB
  | succ n ih =>
    intro st hB
    rw [loopS]
    split
    · exact hB
    · exact ih _ (h2 st hB)
theorem list_ok {α : Type} (one : St → α × St) (F : α → List Int) (h1 : ∀ st : St, Bytes st.1 → (one st).2.2 = false → st.2 = false ∧ st.1 = F (one st).1 ++ (one st).2.1) (h2 : ∀ st : St, Bytes st.1 → Bytes (one st).2.1) (size : Nat) (hs : size ≤ 6) (st : St) (hB : Bytes st.1) (h : (listS one size st).2.2 = false) : st.2 = false ∧ st.1 = numB ((listS one size st).1.length : Int) size ++ ((listS one size st).1.flatMap F ++ (listS one size st).2.1) := by
  obtain ⟨i1, i2, i3⟩ := loop_ok one F h1 h2 _ _ (num_oct (size := size) hB) h
  obtain ⟨j1, j2⟩ := num_ok hB i1
  have hq := numS_bound size st hB hs
  refine ⟨j1, ?_⟩
  have e : ((listS one size st).1.length : Int) = (numS size st).1 := by
    show ((loopS one (numS size st).1.toNat (numS size st).2).1.length : Int) = _
    rw [i2]
    omega
  rw [e]
  unfold listS
  rw [← i3]
  exact j2
theorem list_oct {α : Type} (one : St → α × St) (h2 : ∀ st : St, Bytes st.1 → Bytes (one st).2.1) (size : Nat) (st : St) (hB : Bytes st.1) : Bytes (listS one size st).2.1 := loop_oct one h2 _ _ (num_oct hB)
theorem dec_enc (l0 : List Int) (hB : Bytes l0) (hs : (decS l0).s.2 = false) (hq : (decS l0).q = 2) (hr : (decS l0).s.1 = []) :
    encL (decS l0).m.1 (decS l0).m.2.1 (decS l0).m.2.2.1 (decS l0).m.2.2.2.1 (decS l0).m.2.2.2.2.1 (decS l0).m.2.2.2.2.2.1 (decS l0).m.2.2.2.2.2.2.1 (decS l0).m.2.2.2.2.2.2.2.1 (decS l0).m.2.2.2.2.2.2.2.2 = l0 := by
  simp only [decS] at hs hq hr ⊢
  have b4 := num_oct (size := 1) (st := (l0, false)) hB
  have b5 := num_oct (size := 6) b4
  have b6 := num_oct (size := 6) b5
  have b7 := num_oct (size := 6) b6
  have b8 := num_oct (size := 6) b7
  have b9 := num_oct (size := 6) b8
  have b10 := text_oct b9
  have b11 := list_oct textS (fun st => text_oct) 2 _ b10
  have b12 := list_oct (numS 1) (fun st => num_oct) 2 _ b11
  obtain ⟨c12, e13⟩ := list_ok textS textB (fun st => text_ok) (fun st => text_oct) 4 (by omega) _ b12 hs
  obtain ⟨c11, e12⟩ := list_ok (numS 1) (numB · 1) (fun st => num_ok) (fun st => num_oct) 2 (by omega) _ b11 c12
  obtain ⟨c10, e11⟩ := list_ok textS textB (fun st => text_ok) (fun st => text_oct) 2 (by omega) _ b10 c11
  obtain ⟨c9, e10⟩ := text_ok b9 c10
  obtain ⟨c8, e9⟩ := num_ok b8 c9
  obtain ⟨c7, e8⟩ := num_ok b7 c8
  obtain ⟨c6, e7⟩ := num_ok b6 c7
  obtain ⟨c5, e6⟩ := num_ok b5 c6
  obtain ⟨c4, e5⟩ := num_ok b4 c5
  obtain ⟨_, e4⟩ := num_ok (st := (l0, false)) hB c4
  rw [hr, List.append_nil] at e13
  unfold encL
  rw [← e13]
  simp only [List.flatMap_cons, List.flatMap_nil, List.append_nil, List.append_assoc]
  rw [← e12, ← e11, ← e10, ← e9, ← e8, ← e7, ← e6, ← e5]
  have e4' : l0 = numB (numS 1 (l0, false)).1 1 ++ (numS 1 (l0, false)).2.1 := e4
  rw [hq, numB_one] at e4'
  exact e4'.symm
end Go.Proofs.YtljhfaneepehcaaDoor.Addr
