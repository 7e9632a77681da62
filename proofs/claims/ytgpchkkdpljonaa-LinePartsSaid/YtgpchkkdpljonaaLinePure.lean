/- All the lines of a text, and what ref.Lines says of them: no program in sight. -/
import Derived.Test.YtgpchkkdpljonaaLineLaws
import Derived.Test.YtgpchkkdpljonaaHandLines
namespace Go.Proofs.Ytgpchkkdpljonaa.Hand
open Go.RowKit Go.Proofs.YtgpchkkdpljonaaW.PrintWords Go.Proofs.YtgpchkkdpljonaaW.PrintLast Go.Proofs.YtgpchkkdpljonaaW.PrintMore Go.Proofs.Ytgpchkkdpljonaa.PY
set_option linter.unusedVariables false
set_option linter.unusedSimpArgs false
def lineS (most : Int) (b : List UInt8) : S29 := ⟨(lineOf most b).1, (lineOf most b).2⟩
def linesN : Nat → Int → List UInt8 → List S29 × List UInt8
  | 0, _, l => ([], l)
  | n + 1, most, l => if 0 ≤ Lib.index l [13, 10] then (lineS most (l.take (Lib.index l [13, 10]).toNat) :: (linesN n most (l.drop ((Lib.index l [13, 10]).toNat + 2))).1, (linesN n most (l.drop ((Lib.index l [13, 10]).toNat + 2))).2) else ([], l)
def linesL (most : Int) (l : List UInt8) : List S29 × List UInt8 := linesN l.length most l
theorem index_room2 (l : List UInt8) (h : 0 ≤ Lib.index l [13, 10]) : (Lib.index l [13, 10]).toNat + 2 ≤ l.length := by
  have := Lib.index_room l [13, 10] h
  simp at this
  omega
theorem linesN_same : ∀ (n m : Nat) (most : Int) (l : List UInt8), l.length ≤ n → l.length ≤ m → linesN n most l = linesN m most l := by
  intro n
  induction n with
  | zero =>
    intro m most l hn hm
    have : l = [] := List.eq_nil_of_length_eq_zero (by omega)
    subst this
    cases m <;> rfl
  | succ n ih =>
    intro m most l hn hm
    cases m with
    | zero =>
      have : l = [] := List.eq_nil_of_length_eq_zero (by omega)
      subst this
      rfl
    | succ m =>
      unfold linesN
      by_cases h : 0 ≤ Lib.index l [13, 10]
      · have := index_room2 l h
        rw [if_pos h, if_pos h, ih m most _ (by rw [List.length_drop]; omega) (by rw [List.length_drop]; omega)]
      · rw [if_neg h, if_neg h]
theorem linesL_hit (most : Int) (l : List UInt8) (h : 0 ≤ Lib.index l [13, 10]) : linesL most l = (lineS most (l.take (Lib.index l [13, 10]).toNat) :: (linesL most (l.drop ((Lib.index l [13, 10]).toNat + 2))).1, (linesL most (l.drop ((Lib.index l [13, 10]).toNat + 2))).2) := by
  have hr := index_room2 l h
  obtain ⟨n, hn⟩ : ∃ n, l.length = n + 1 := ⟨l.length - 1, by omega⟩
  have e : linesN n most (l.drop ((Lib.index l [13, 10]).toNat + 2)) = linesL most (l.drop ((Lib.index l [13, 10]).toNat + 2)) := linesN_same _ _ _ _ (by rw [List.length_drop]; omega) (Nat.le_refl _)
  rw [← e]
  unfold linesL
  rw [hn, linesN, if_pos h]
theorem linesL_miss (most : Int) (l : List UInt8) (h : ¬ 0 ≤ Lib.index l [13, 10]) : linesL most l = ([], l) := by
  unfold linesL
  cases l.length with
  | zero => rfl
  | succ n => rw [linesN, if_neg h]
theorem index_app (m : List UInt8) : ∀ (l : List UInt8), 0 ≤ Lib.index l [13, 10] → Lib.index (l ++ m) [13, 10] = Lib.index l [13, 10]
  | [], h => by simp [Lib.index] at h
  | [c], h => by
    have := index_room2 [c] h
    simp at this
  | c :: d :: l, h => by
    rw [List.cons_append, Lib.index, Lib.index]
    have e : List.isPrefixOf [13, 10] (c :: (d :: l ++ m)) = List.isPrefixOf [13, 10] (c :: d :: l) := by simp [List.isPrefixOf]
    rw [e]
    by_cases hp : List.isPrefixOf [13, 10] (c :: d :: l) = true
    · rw [if_pos hp, if_pos hp]
    · rw [if_neg hp, if_neg hp]
      rw [Lib.index, if_neg hp] at h
      have h2 : 0 ≤ Lib.index (d :: l) [13, 10] := by
        by_cases h3 : Lib.index (d :: l) [13, 10] = -1
        · rw [h3] at h
          simp at h
        · have := Lib.index_ge (d :: l) [13, 10]
          omega
      rw [index_app m (d :: l) h2]
theorem linesL_app (most : Int) (m : List UInt8) : ∀ (n : Nat) (l : List UInt8), l.length ≤ n → linesL most (l ++ m) = ((linesL most l).1 ++ (linesL most ((linesL most l).2 ++ m)).1, (linesL most ((linesL most l).2 ++ m)).2) := by
  intro n
  induction n with
  | zero =>
    intro l hl
    have : l = [] := List.eq_nil_of_length_eq_zero (by omega)
    subst this
    rfl
  | succ n ih =>
    intro l hl
    by_cases h : 0 ≤ Lib.index l [13, 10]
    · have hr := index_room2 l h
      have hi := index_app m l h
      rw [linesL_hit most (l ++ m) (by rw [hi]; exact h), linesL_hit most l h, hi, List.take_append_of_le_length (by omega), List.drop_append_of_le_length (by omega), ih _ (by rw [List.length_drop]; omega)]
      rfl
    · rw [linesL_miss most l h]
      rfl
theorem linesL_len (most : Int) : ∀ (n : Nat) (l : List UInt8), l.length ≤ n → 2 * (linesL most l).1.length + (linesL most l).2.length ≤ l.length := by
  intro n
  induction n with
  | zero =>
    intro l hl
    have : l = [] := List.eq_nil_of_length_eq_zero (by omega)
    subst this
    exact Nat.le_refl _
  | succ n ih =>
    intro l hl
    by_cases h : 0 ≤ Lib.index l [13, 10]
    · have hr := index_room2 l h
      rw [linesL_hit most l h, List.length_cons]
      have := ih (l.drop ((Lib.index l [13, 10]).toNat + 2)) (by rw [List.length_drop]; omega)
      rw [List.length_drop] at this
      show 2 * (_ + 1) + (linesL most (l.drop ((Lib.index l [13, 10]).toNat + 2))).2.length ≤ _
      omega
    · rw [linesL_miss most l h]
      simp
theorem linesL_rest (most : Int) : ∀ (n : Nat) (l : List UInt8), l.length ≤ n → ¬ 0 ≤ Lib.index (linesL most l).2 [13, 10] := by
  intro n
  induction n with
  | zero =>
    intro l hl
    have : l = [] := List.eq_nil_of_length_eq_zero (by omega)
    subst this
    have : Lib.index (linesL most []).2 [13, 10] = -1 := rfl
    omega
  | succ n ih =>
    intro l hl
    by_cases h : 0 ≤ Lib.index l [13, 10]
    · have hr := index_room2 l h
      rw [linesL_hit most l h]
      exact ih _ (by rw [List.length_drop]; omega)
    · rw [linesL_miss most l h]
      exact h
theorem rd_num (b : List UInt8) (i : Nat) (h : i < b.length) : rd (numsL b) (i : Int) = (b[i].toNat : Int) := by
  unfold rd numsL
  rw [Int.toNat_natCast]
  simp [List.getD_eq_getElem?_getD, List.getElem?_map, List.getElem?_eq_getElem h]
theorem num_eq (a : UInt8) (k : UInt8) : ((a.toNat : Int) = (k.toNat : Int)) ↔ a = k := ⟨fun e => UInt8.toNat_inj.1 (by omega), fun e => by rw [e]⟩
theorem occ_at (b : List UInt8) (i : Nat) (h : i + 1 < b.length) : Lib.occAt b [13, 10] i = (b[i] == 13 && b[i + 1] == 10) := by
  unfold Lib.occAt
  rw [List.drop_eq_getElem_cons (by omega), List.drop_eq_getElem_cons h]
  simp only [List.isPrefixOf, Bool.and_true]
  rw [Bool.beq_comm (a := b[i]), Bool.beq_comm (a := b[i + 1])]
theorem occ_end (b : List UInt8) (i : Nat) (h : b.length ≤ i + 1) : Lib.occAt b [13, 10] i = false := by
  unfold Lib.occAt
  have hl : (b.drop i).length ≤ 1 := by rw [List.length_drop]; omega
  cases e : b.drop i with
  | nil => rfl
  | cons c t =>
    rw [e, List.length_cons] at hl
    have : t = [] := List.eq_nil_of_length_eq_zero (by omega)
    subst this
    simp [List.isPrefixOf]
theorem occ_drop (b : List UInt8) (s j : Nat) : Lib.occAt (b.drop s) [13, 10] j = Lib.occAt b [13, 10] (s + j) := by
  unfold Lib.occAt
  rw [List.drop_drop]
theorem num13 (a : UInt8) : ((a.toNat : Int) = 13) ↔ a = 13 := num_eq a 13
theorem num10 (a : UInt8) : ((a.toNat : Int) = 10) ↔ a = 10 := num_eq a 10
theorem ref_lines (b : List UInt8) (most : Int) (hb : b.length < 1000000) : ∀ (n k s i : Nat) (out : List S29), b.length - i ≤ n → 2 * b.length + 1 < k + i → s ≤ i → i ≤ b.length → out.length + b.length - s < 2000000 → 2 * out.length ≤ s → (∀ j, s ≤ j → j < i → Lib.occAt b [13, 10] j = false) →
    estafetteref01_Lines.l0 k (numsL b) most out (s : Int) (i : Int) = some (out ++ (linesL most (b.drop s)).1, numsL (linesL most (b.drop s)).2) := by
  intro n
  induction n with
  | zero =>
    intro k s i out hn hk hsi hi hob hout hocc
    obtain ⟨k, rfl⟩ : ∃ k', k = k' + 1 := ⟨k - 1, by omega⟩
    obtain rfl : i = b.length := by omega
    rw [estafetteref01_Lines.l0, nums_len, Go.IntWalk.wrap64_in _ (by omega), if_neg (by omega), if_pos (by omega), if_pos (by omega), Int.toNat_natCast, nums_drop]
    have hidx : ¬ 0 ≤ Lib.index (b.drop s) [13, 10] := by
      rw [Lib.index_none (fun j hj => by
        rw [occ_drop]
        rw [List.length_drop] at hj
        by_cases h : s + j < b.length
        · exact hocc _ (by omega) h
        · exact occ_end b _ (by omega))]
      omega
    rw [linesL_miss _ _ hidx, List.append_nil]
  | succ n ih =>
    intro k s i out hn hk hsi hi hob hout hocc
    obtain ⟨k, rfl⟩ : ∃ k', k = k' + 1 := ⟨k - 1, by omega⟩
    rw [estafetteref01_Lines.l0, nums_len, Go.IntWalk.wrap64_in ((i : Int) + 1) (by omega)]
    by_cases h1 : i + 1 < b.length
    · have hi' : i < b.length := by omega
      have e1 : ((i : Int) + 1) = ((i + 1 : Nat) : Int) := by omega
      rw [e1, if_pos (by omega), if_pos (by omega), if_pos (by omega), rd_num b i hi', rd_num b (i + 1) h1]
      have hw : wrap64 (((i + 1 : Nat) : Int) + 1) = ((i + 2 : Nat) : Int) := by rw [Go.IntWalk.wrap64_in _ (by omega)]; omega
      have hw2 : wrap64 ((i : Int) + 2) = ((i + 2 : Nat) : Int) := by rw [Go.IntWalk.wrap64_in _ (by omega)]; omega
      have hnext : Lib.occAt b [13, 10] i = false → estafetteref01_Lines.l0 k (numsL b) most out (s : Int) ((i + 1 : Nat) : Int) = some (out ++ (linesL most (b.drop s)).1, numsL (linesL most (b.drop s)).2) := fun ho => ih k s (i + 1) out (by omega) (by omega) (by omega) (by omega) hob hout (fun j h2 h3 => by
        by_cases e : j = i
        · rw [e]; exact ho
        · exact hocc j h2 (by omega))
      by_cases c1 : b[i] = 13
      · rw [if_pos ((num13 _).2 c1), if_pos (by omega)]
        by_cases c2 : b[i + 1] = 10
        · rw [if_pos ((num10 _).2 c2), if_pos (by omega), if_pos (by omega), if_pos (by omega), Int.toNat_natCast, Int.toNat_natCast, nums_take, nums_drop]
          have hocc1 : Lib.occAt b [13, 10] i = true := by rw [occ_at b i h1, c1, c2]; rfl
          have hsi' : s + (i - s) = i := by omega
          have hidx : Lib.index (b.drop s) [13, 10] = ((i - s : Nat) : Int) := Lib.index_first (by rw [List.length_drop]; omega) (by rw [occ_drop, hsi']; exact hocc1) (fun j hj => by rw [occ_drop]; exact hocc _ (by omega) (by omega))
          have htk : (b.drop s).take (i - s) = (b.take i).drop s := by rw [List.drop_take]
          rw [ref_line _ _ _ (by rw [List.length_drop, List.length_take]; omega) (by rw [List.length_drop, List.length_take]; omega), Option.bind_some, if_pos (by omega), hw, hw2]
          rw [ih k (i + 2) (i + 2) _ (by omega) (by omega) (by omega) (by omega) (by rw [List.length_append]; simp; omega) (by rw [List.length_append]; simp; omega) (fun j h2 h3 => by omega)]
          rw [linesL_hit most (b.drop s) (by rw [hidx]; omega), hidx, Int.toNat_natCast, htk, List.drop_drop, List.append_assoc]
          have e3 : s + (i - s + 2) = i + 2 := by omega
          rw [e3]
          rfl
        · rw [if_neg (fun e => c2 ((num10 _).1 e))]
          exact hnext (by rw [occ_at b i h1]; simp [c2])
      · rw [if_neg (fun e => c1 ((num13 _).1 e))]
        exact hnext (by rw [occ_at b i h1]; simp [c1])
    · rw [if_neg (by omega), if_pos (by omega), if_pos (by omega), Int.toNat_natCast, nums_drop]
      have hidx : ¬ 0 ≤ Lib.index (b.drop s) [13, 10] := by
        rw [Lib.index_none (fun j hj => by
          rw [occ_drop]
          rw [List.length_drop] at hj
          by_cases h : s + j < i
          · exact hocc _ (by omega) h
          · exact occ_end b _ (by omega))]
        omega
      rw [linesL_miss _ _ hidx, List.append_nil]
theorem lines_ref (b : List UInt8) (most : Int) (hb : b.length < 1000000) : estafetteref01_Lines.f (2 * b.length + 2) (numsL b) most = some ((linesL most b).1, numsL (linesL most b).2) := by
  have := ref_lines b most hb b.length (2 * b.length + 2) 0 0 [] (by omega) (by omega) (by omega) (by omega) (by simp; omega) (by simp) (fun j h1 h2 => by omega)
  rw [List.drop_zero, List.nil_append] at this
  exact this
end Go.Proofs.Ytgpchkkdpljonaa.Hand
