/- What Encode computes of a message that may be; how long its bytes are; the laws' own small and answers. -/
import Derived.Test.YtljhfaneepehcaaDoorBinGood
import Derived.Test.YtljhfaneepehcaaDoorPCx1
namespace Go.Proofs.YtljhfaneepehcaaDoor.Addr
open Go.RowKit Go.Proofs.YtljhfaneepehcaaDoor.PC Go.Proofs.YtljhfaneepehcaaDoor.PB Go.Proofs.YtljhfaneepehcaaDoorW.PrintWords Go.Proofs.YtljhfaneepehcaaDoorW.PrintLast Go.Proofs.YtljhfaneepehcaaDoorW.PrintMore Go.Proofs.YtljhfaneepehcaaDoor.Hand
set_option linter.unusedVariables false
theorem answers_ev : Ev (fun k => estafettelaw12_answers.f k) true := Ev.of (k := 70) estafettelaw12_answers.mono (by decide +kernel)
def sumS (l : List ByteArray) : Nat := (l.map ByteArray.size).sum
theorem sumS_cons (s : ByteArray) (l : List ByteArray) : sumS (s :: l) = s.size + sumS l := by simp [sumS]
theorem sumS_mem {l : List ByteArray} {s : ByteArray} (h : s ∈ l) : s.size ≤ sumS l := by
  induction l with
  | nil => cases h
  | cons x l ih =>
    rw [sumS_cons]
    rcases List.mem_cons.1 h with rfl | h
    · omega
    · have := ih h; omega
theorem sizeL_sum (l : List ByteArray) : Dots.sizeL l = sumS l + 2 * l.length := by
  induction l with
  | nil => rfl
  | cons x l ih => rw [Dots.sizeL_cons, sumS_cons, ih, List.length_cons]; omega
theorem text_len (s : ByteArray) : (textB s).length = 2 + s.size := by unfold textB; rw [List.length_append, numB_len, bytesOf_length]
theorem texts_len (l : List ByteArray) : (l.flatMap textB).length = sumS l + 2 * l.length := by
  induction l with
  | nil => rfl
  | cons x l ih => rw [List.flatMap_cons, List.length_append, text_len, ih, sumS_cons, List.length_cons]; omega
theorem nums_len (l : List Int) (n : Nat) : (l.flatMap (numB · n)).length = n * l.length := by
  induction l with
  | nil => rfl
  | cons x l ih => rw [List.flatMap_cons, List.length_append, numB_len, ih, List.length_cons, Nat.mul_succ]; omega
theorem enc_len (a0 a1 a2 a3 a4 : Int) (a5 : ByteArray) (l6 : List ByteArray) (l7 : List Int) (l8 : List ByteArray) : (encL a0 a1 a2 a3 a4 a5 l6 l7 l8).length = 41 + a5.size + (sumS l6 + 2 * l6.length) + l7.length + (sumS l8 + 2 * l8.length) := by
  unfold encL
  rw [List.length_cons, List.length_append, List.length_append, List.length_append, List.length_append, List.length_append, List.length_append, List.length_append, nums_len, nums_len, text_len, texts_len, texts_len, numB_len, numB_len, numB_len]
  simp only [List.length_cons, List.length_nil]
  omega
theorem ok_time (l : List Int) (h : l.all timeB = true) : l.all okNum = true := by
  rw [List.all_eq_true] at h ⊢
  intro x hx
  have := h x hx
  unfold timeB at this
  unfold okNum
  rw [Bool.and_eq_true, decide_eq_true_iff, decide_eq_true_iff] at this ⊢
  omega
theorem ok_mark (l : List Int) (h : l.all markB = true) : l.all okNum = true := by
  rw [List.all_eq_true] at h ⊢
  intro x hx
  have := h x hx
  unfold markB at this
  unfold okNum
  rw [Bool.and_eq_true, decide_eq_true_iff, decide_eq_true_iff] at this ⊢
  omega
theorem enc_ev (a0 a1 a2 a3 a4 : Int) (a5 : ByteArray) (l6 : List ByteArray) (l7 : List Int) (l8 : List ByteArray) (hz : a5.size + l6.length + l7.length + l8.length + sumS l6 + sumS l8 < 1000000) (hg : goodM a0 a1 a2 a3 a4 a5 l6 l7 l8 = true) :
    Ev (fun k => Hand.bin_Encode.f k a0 a1 a2 a3 a4 a5 l6 l7 l8) (encL a0 a1 a2 a3 a4 a5 l6 l7 l8, 0) := by
  have h8 := sizeL_sum l8
  have he := env_good_ev a0 a1 a2 a3 a4 a5 l6 l7 l8 (by omega) (fun s hs => by have := sumS_mem hs; omega) (by omega)
  rw [hg] at he
  simp only [Hand.bin_Encode.f]
  refine Ev.bind he (ev_pos rfl (ev_pos ?_ (ev_now rfl)))
  unfold goodM at hg
  simp only [Bool.and_eq_true] at hg
  obtain ⟨g0, _, _, _, _, _, _, g7⟩ := hg
  have hl := enc_len a0 a1 a2 a3 a4 a5 l6 l7 l8
  exact ⟨⟨ok_time _ g0, ok_mark _ g7, by omega⟩, by omega, by omega, by omega⟩
/-! ## small -/
theorem small_l1 (a0 a1 a2 a3 a4 : Int) (a5 : ByteArray) (l6 : List ByteArray) (l7 : List Int) (l8 : List ByteArray) (h6 : ∀ s ∈ l6, s.size ≤ 140737488351232) (hl : l6.length ≤ 140737488351232) : ∀ (d i : Nat) (n : Int), l6.length - i = d → i ≤ l6.length → 0 ≤ n → n < 4611686018427387904 → ∃ b, Ev (fun k => estafettelaw12_small.l1 k n (i : Int) a0 a1 a2 a3 a4 a5 l6 l7 l8) b ∧ (b = true → n + sumS (l6.drop i) < 5000) := by
  intro d
  induction d with
  | zero =>
    intro i n hd hi h0 h1
    obtain rfl : i = l6.length := by omega
    refine ⟨decide (n < 5000), Ev_succ ?_, fun h => ?_⟩
    · simp only [estafettelaw12_small.l1]
      exact ev_neg (by omega) (ev_now rfl)
    · rw [List.drop_length]
      have := of_decide_eq_true h
      show n + (0 : Nat) < 5000
      omega
  | succ d ih =>
    intro i n hd hi h0 h1
    have h : i < l6.length := by omega
    have hs := h6 _ (List.getElem_mem h)
    by_cases hn : n < 5000
    · obtain ⟨b, hb, hb2⟩ := ih (i + 1) (n + (l6[i].size : Int)) (by omega) (by omega) (by omega) (by omega)
      refine ⟨b, Ev_succ ?_, fun h2 => ?_⟩
      · simp only [estafettelaw12_small.l1]
        refine ev_pos (by omega) (ev_pos hn (ev_pos (by omega) ?_))
        rw [rd_str l6 i h, (w_succ i (by omega)).out, Go.IntWalk.wrap64_in _ (by omega)]
        exact hb
      · have := hb2 h2
        rw [List.drop_eq_getElem_cons h, sumS_cons]
        omega
    · refine ⟨false, Ev_succ ?_, fun h2 => by cases h2⟩
      simp only [estafettelaw12_small.l1]
      exact ev_pos (by omega) (ev_neg hn (ev_now (decide_eq_false hn)))
theorem small_l0 (a0 a1 a2 a3 a4 : Int) (a5 : ByteArray) (l6 : List ByteArray) (l7 : List Int) (l8 : List ByteArray) (h6 : ∀ s ∈ l6, s.size ≤ 140737488351232) (hl : l6.length ≤ 140737488351232) (h8 : ∀ s ∈ l8, s.size ≤ 140737488351232) (hl8 : l8.length ≤ 140737488351232) : ∀ (d i : Nat) (n : Int), l8.length - i = d → i ≤ l8.length → 0 ≤ n → n < 4611686018427387904 → ∃ b, Ev (fun k => estafettelaw12_small.l0 k n (i : Int) a0 a1 a2 a3 a4 a5 l6 l7 l8) b ∧ (b = true → n + sumS (l8.drop i) + sumS l6 < 5000) := by
  intro d
  induction d with
  | zero =>
    intro i n hd hi h0 h1
    obtain rfl : i = l8.length := by omega
    obtain ⟨b, hb, hb2⟩ := small_l1 a0 a1 a2 a3 a4 a5 l6 l7 l8 h6 hl l6.length 0 n rfl (Nat.zero_le _) h0 h1
    refine ⟨b, Ev_succ ?_, fun h => ?_⟩
    · simp only [estafettelaw12_small.l0]
      refine ev_neg (by omega) (Ev_succ ?_)
      simp only [estafettelaw12_small.j1]
      exact hb
    · rw [List.drop_length]
      have := hb2 h
      rw [List.drop_zero] at this
      show n + (0 : Nat) + _ < 5000
      omega
  | succ d ih =>
    intro i n hd hi h0 h1
    have h : i < l8.length := by omega
    have hs := h8 _ (List.getElem_mem h)
    by_cases hn : n < 5000
    · obtain ⟨b, hb, hb2⟩ := ih (i + 1) (n + (l8[i].size : Int)) (by omega) (by omega) (by omega) (by omega)
      refine ⟨b, Ev_succ ?_, fun h2 => ?_⟩
      · simp only [estafettelaw12_small.l0]
        refine ev_pos (by omega) (ev_pos hn (ev_pos (by omega) ?_))
        rw [rd_str l8 i h, (w_succ i (by omega)).out, Go.IntWalk.wrap64_in _ (by omega)]
        exact hb
      · have := hb2 h2
        rw [List.drop_eq_getElem_cons h, sumS_cons]
        omega
    · obtain ⟨b, hb, hb2⟩ := small_l1 a0 a1 a2 a3 a4 a5 l6 l7 l8 h6 hl l6.length 0 n rfl (Nat.zero_le _) h0 h1
      refine ⟨b, Ev_succ ?_, fun h2 => by have := hb2 h2; omega⟩
      simp only [estafettelaw12_small.l0]
      refine ev_pos (by omega) (ev_neg hn (Ev_succ ?_))
      simp only [estafettelaw12_small.j1]
      exact hb
/-- What a message's fields are bounded by. -/
structure Bnd (a5 : ByteArray) (l6 : List ByteArray) (l7 : List Int) (l8 : List ByteArray) : Prop where
  b5 : a5.size ≤ 140737488351232
  n6 : l6.length * 16 ≤ 140737488351232
  b6 : ∀ s ∈ l6, s.size ≤ 140737488351232
  n7 : l7.length * 8 ≤ 140737488351232
  n8 : l8.length * 16 ≤ 140737488351232
  b8 : ∀ s ∈ l8, s.size ≤ 140737488351232
theorem small_ev (a0 a1 a2 a3 a4 : Int) (a5 : ByteArray) (l6 : List ByteArray) (l7 : List Int) (l8 : List ByteArray) (h : Bnd a5 l6 l7 l8) : ∃ b, Ev (fun k => estafettelaw12_small.f k a0 a1 a2 a3 a4 a5 l6 l7 l8) b ∧ (b = true → a5.size + l6.length + l7.length + l8.length + sumS l6 + sumS l8 < 5000) := by
  have h1 := h.b5
  have h2 := h.n6
  have h3 := h.n7
  have h4 := h.n8
  obtain ⟨b, hb, hb2⟩ := small_l0 a0 a1 a2 a3 a4 a5 l6 l7 l8 h.b6 (by omega) h.b8 (by omega) l8.length 0 ((a5.size : Int) + l6.length + l7.length + l8.length) rfl (Nat.zero_le _) (by omega) (by omega)
  refine ⟨b, ?_, fun e => ?_⟩
  · simp only [estafettelaw12_small.f]
    rw [Go.IntWalk.wrap64_in ((a5.size : Int) + (l6.length : Int)) (by omega), Go.IntWalk.wrap64_in ((a5.size : Int) + (l6.length : Int) + (l7.length : Int)) (by omega), Go.IntWalk.wrap64_in _ (by omega)]
    exact hb
  · have := hb2 e
    rw [List.drop_zero] at this
    omega
end Go.Proofs.YtljhfaneepehcaaDoor.Addr
