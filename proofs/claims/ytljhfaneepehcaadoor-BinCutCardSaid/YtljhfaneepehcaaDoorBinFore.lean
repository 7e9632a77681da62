/- What Encode yields is read again as the message that it was. -/
import Derived.Test.YtljhfaneepehcaaDoorBinParse
namespace Go.Proofs.YtljhfaneepehcaaDoor.Addr
open Go.RowKit Go.Proofs.YtljhfaneepehcaaDoor.PC Go.Proofs.YtljhfaneepehcaaDoor.PB Go.Proofs.YtljhfaneepehcaaDoorW.PrintWords Go.Proofs.YtljhfaneepehcaaDoorW.PrintLast Go.Proofs.YtljhfaneepehcaaDoorW.PrintMore Go.Proofs.YtljhfaneepehcaaDoor.Hand
set_option linter.unusedVariables false
theorem take_fore (l r : List Int) : takeS l.length (l ++ r, false) = (l, (r, false)) := by
  unfold takeS
  rw [if_neg]
  · show ((l ++ r).take l.length, ((l ++ r).drop l.length, false)) = _
    rw [List.take_left, List.drop_left]
  · rintro (h | h)
    · cases h
    · have h : (l ++ r).length < l.length := h
      rw [List.length_append] at h
      omega
theorem valB_numB (s : Nat) : ∀ n : Int, 0 ≤ n → n < 256 ^ s → valB (numB n s) = n := by
  induction s with
  | zero =>
    intro n h0 h1
    have : n = 0 := by
      rw [Int.pow_zero] at h1
      omega
    rw [this]
    rfl
  | succ s ih =>
    intro n h0 h1
    rw [Int.pow_succ] at h1
    rw [numB_snoc, valB_snoc, ih (n / 256) (by omega) (by generalize (256 : Int) ^ s = q at *; omega)]
    omega
theorem num_fore (s : Nat) (n : Int) (r : List Int) (h0 : 0 ≤ n) (h1 : n < 256 ^ s) : numS s (numB n s ++ r, false) = (n, (r, false)) := by
  have := take_fore (numB n s) r
  rw [numB_len] at this
  unfold numS
  rw [this, valB_numB s n h0 h1]
theorem str_bytes (s : ByteArray) : strOfNums (bytesOf s) = s := by
  unfold bytesOf strOfNums
  apply ByteArray.ext
  apply Array.toList_inj.1
  show ((s.data.toList.map fun b => (b.toNat : Int)).map fun n => n.toNat.toUInt8).toArray.toList = s.data.toList
  rw [List.map_map]
  conv => rhs; rw [← List.map_id s.data.toList]
  show s.data.toList.map _ = _
  refine List.map_congr_left fun x _ => ?_
  show (((x.toNat : Int).toNat).toUInt8) = x
  rw [Int.toNat_natCast]
  simp
theorem text_fore (s : ByteArray) (r : List Int) (h : s.size < 65536) : textS (textB s ++ r, false) = (s, (r, false)) := by
  have h2 : ((256 : Int) ^ 2) = 65536 := by decide
  have e1 : numS 2 (textB s ++ r, false) = ((s.size : Int), (bytesOf s ++ r, false)) := by
    unfold textB
    rw [List.append_assoc]
    exact num_fore 2 _ _ (by omega) (by omega)
  have e2 := take_fore (bytesOf s) r
  rw [bytesOf_length] at e2
  unfold textS
  rw [e1]
  show (strOfNums (takeS ((s.size : Int)).toNat (bytesOf s ++ r, false)).1, (takeS ((s.size : Int)).toNat (bytesOf s ++ r, false)).2) = _
  rw [Int.toNat_natCast, e2, str_bytes]
theorem loop_fore {α : Type} (one : St → α × St) (F : α → List Int) (ok : α → Prop) (h : ∀ x r, ok x → one (F x ++ r, false) = (x, (r, false))) : ∀ (l : List α) (r : List Int), (∀ x ∈ l, ok x) → loopS one l.length (l.flatMap F ++ r, false) = (l, (r, false)) := by
  intro l
  induction l with
  | nil => exact fun _ _ => rfl
  | cons x l ih =>
    intro r hl
    rw [List.length_cons, loopS, if_neg (show ¬ (((x :: l).flatMap F ++ r, false) : St).2 = true from Bool.false_ne_true), List.flatMap_cons, List.append_assoc, h x _ (hl x List.mem_cons_self)]
    show (x :: (loopS one l.length (l.flatMap F ++ r, false)).1, (loopS one l.length (l.flatMap F ++ r, false)).2) = _
    rw [ih r (fun y hy => hl y (List.mem_cons_of_mem _ hy))]
theorem list_fore {α : Type} (one : St → α × St) (F : α → List Int) (ok : α → Prop) (h : ∀ x r, ok x → one (F x ++ r, false) = (x, (r, false))) (size : Nat) (l : List α) (r : List Int) (hl : ∀ x ∈ l, ok x) (hn : (l.length : Int) < 256 ^ size) : listS one size (numB (l.length : Int) size ++ (l.flatMap F ++ r), false) = (l, (r, false)) := by
  unfold listS
  rw [num_fore size _ _ (by omega) hn]
  show loopS one ((l.length : Int)).toNat (l.flatMap F ++ r, false) = _
  rw [Int.toNat_natCast]
  exact loop_fore one F ok h l r hl
theorem dec_fore (a0 a1 a2 a3 a4 : Int) (a5 : ByteArray) (l6 : List ByteArray) (l7 : List Int) (l8 : List ByteArray) (r : List Int) (hz : a5.size + l6.length + l7.length + l8.length + sumS l6 + sumS l8 < 5000) (hg : goodM a0 a1 a2 a3 a4 a5 l6 l7 l8 = true) :
    decS (encL a0 a1 a2 a3 a4 a5 l6 l7 l8 ++ r) = ⟨2, (a0, a1, a2, a3, a4, a5, l6, l7, l8), (r, false)⟩ := by
  have p1 : ((256 : Int) ^ 1) = 256 := by decide
  have p2 : ((256 : Int) ^ 2) = 65536 := by decide
  have p4 : ((256 : Int) ^ 4) = 4294967296 := by decide
  have p6 : ((256 : Int) ^ 6) = 281474976710656 := by decide
  unfold goodM at hg
  simp only [Bool.and_eq_true, List.all_cons, List.all_nil] at hg
  obtain ⟨⟨t0, t1, t2, t3, t4, _⟩, _, _, _, _, _, _, g7⟩ := hg
  have tm : ∀ n, timeB n = true → 0 ≤ n ∧ n < 256 ^ 6 := fun n h => by
    unfold timeB at h
    rw [Bool.and_eq_true, decide_eq_true_iff, decide_eq_true_iff] at h
    omega
  have hm : ∀ x ∈ l7, 0 ≤ x ∧ x < 256 ^ 1 := fun x hx => by
    have := List.all_eq_true.1 g7 x hx
    unfold markB at this
    rw [Bool.and_eq_true, decide_eq_true_iff, decide_eq_true_iff] at this
    omega
  have e0 : encL a0 a1 a2 a3 a4 a5 l6 l7 l8 ++ r = numB 2 1 ++ (numB a0 6 ++ (numB a1 6 ++ (numB a2 6 ++ (numB a3 6 ++ (numB a4 6 ++ (textB a5 ++ (numB (l6.length : Int) 2 ++ (l6.flatMap textB ++ (numB (l7.length : Int) 2 ++ (l7.flatMap (numB · 1) ++ (numB (l8.length : Int) 4 ++ (l8.flatMap textB ++ r)))))))))))) := by
    unfold encL
    simp only [List.flatMap_cons, List.flatMap_nil, List.append_nil, List.append_assoc, List.cons_append, numB_one]
    rfl
  rw [e0]
  have f4 := num_fore 1 2 (numB a0 6 ++ (numB a1 6 ++ (numB a2 6 ++ (numB a3 6 ++ (numB a4 6 ++ (textB a5 ++ (numB (l6.length : Int) 2 ++ (l6.flatMap textB ++ (numB (l7.length : Int) 2 ++ (l7.flatMap (numB · 1) ++ (numB (l8.length : Int) 4 ++ (l8.flatMap textB ++ r)))))))))))) (by decide) (by decide)
  have f5 := fun x => num_fore 6 a0 x (tm a0 t0).1 (tm a0 t0).2
  have f6 := fun x => num_fore 6 a1 x (tm a1 t1).1 (tm a1 t1).2
  have f7 := fun x => num_fore 6 a2 x (tm a2 t2).1 (tm a2 t2).2
  have f8 := fun x => num_fore 6 a3 x (tm a3 t3).1 (tm a3 t3).2
  have f9 := fun x => num_fore 6 a4 x (tm a4 t4).1 (tm a4 t4).2
  have f10 := fun x => text_fore a5 x (by omega)
  have f11 := fun x => list_fore textS textB (fun s => s.size < 65536) (fun s r h => text_fore s r h) 2 l6 x (fun s hs => by have := sumS_mem hs; omega) (by omega)
  have f12 := fun x => list_fore (numS 1) (numB · 1) (fun n => 0 ≤ n ∧ n < 256 ^ 1) (fun n r h => num_fore 1 n r h.1 h.2) 2 l7 x hm (by omega)
  have f13 := fun x => list_fore textS textB (fun s => s.size < 65536) (fun s r h => text_fore s r h) 4 l8 x (fun s hs => by have := sumS_mem hs; omega) (by omega)
  simp only [decS, f4, f5, f6, f7, f8, f9, f10, f11, f12, f13]
end Go.Proofs.YtljhfaneepehcaaDoor.Addr
