/- BinSizes, for every input. -/
import Derived.Test.YtljhfaneepehcaaDoorBinEnc
import Derived.Test.YtljhfaneepehcaaDoorPDx1
namespace Go.Proofs.YtljhfaneepehcaaDoor.Addr
open Go.RowKit Go.Proofs.YtljhfaneepehcaaDoor.PD Go.Proofs.YtljhfaneepehcaaDoor.PC Go.Proofs.YtljhfaneepehcaaDoor.PB Go.Proofs.YtljhfaneepehcaaDoorW.PrintWords Go.Proofs.YtljhfaneepehcaaDoorW.PrintLast Go.Proofs.YtljhfaneepehcaaDoorW.PrintMore Go.Proofs.YtljhfaneepehcaaDoor.Hand
set_option linter.unusedVariables false
theorem sizes_l1 (a0 a1 a2 a3 a4 : Int) (a5 : ByteArray) (l6 : List ByteArray) (l7 : List Int) (l8 : List ByteArray) (hz : a5.size + l6.length + l7.length + l8.length + sumS l6 + sumS l8 < 5000) (hg : goodM a0 a1 a2 a3 a4 a5 l6 l7 l8 = true) : ∀ (d i : Nat) (n : Int), l8.length - i = d → i ≤ l8.length → 0 ≤ n → n + (sumS (l8.drop i) + 2 * (l8.drop i).length : Nat) = ((encL a0 a1 a2 a3 a4 a5 l6 l7 l8).length : Int) → Ev (fun k => estafettelaw12_BinSizes.l1 k n (i : Int) a0 a1 a2 a3 a4 a5 l6 l7 l8) true := by
  have hE := enc_len a0 a1 a2 a3 a4 a5 l6 l7 l8
  intro d
  induction d with
  | zero =>
    intro i n hd hi h0 hn
    obtain rfl : i = l8.length := by omega
    rw [List.drop_length] at hn
    refine Ev_succ ?_
    simp only [estafettelaw12_BinSizes.l1]
    refine ev_neg (by omega) (Ev.bind (enc_ev a0 a1 a2 a3 a4 a5 l6 l7 l8 (by omega) hg) (Ev.bind answers_ev (ev_pos rfl (ev_pos rfl (ev_pos ?_ (ev_pos ?_ (ev_now ?_)))))))
    · have : sumS ([] : List ByteArray) = 0 := rfl
      rw [this] at hn
      simp only [List.length_nil] at hn
      show ((encL a0 a1 a2 a3 a4 a5 l6 l7 l8).length : Int) = n
      omega
    · show (0 : Int) < ((encL a0 a1 a2 a3 a4 a5 l6 l7 l8).length : Int)
      rw [hE]; omega
    · rfl
  | succ d ih =>
    intro i n hd hi h0 hn
    have h : i < l8.length := by omega
    have hs := sumS_mem (List.getElem_mem h)
    rw [List.drop_eq_getElem_cons h, sumS_cons, List.length_cons] at hn
    refine Ev_succ ?_
    simp only [estafettelaw12_BinSizes.l1]
    refine ev_pos (by omega) (ev_pos (by omega) ?_)
    rw [rd_str l8 i h, (w_succ i (by omega)).out, Go.IntWalk.wrap64_in (n + 2) (by omega), Go.IntWalk.wrap64_in _ (by omega)]
    exact ih (i + 1) _ (by omega) (by omega) (by omega) (by omega)
theorem sizes_l0 (a0 a1 a2 a3 a4 : Int) (a5 : ByteArray) (l6 : List ByteArray) (l7 : List Int) (l8 : List ByteArray) (hz : a5.size + l6.length + l7.length + l8.length + sumS l6 + sumS l8 < 5000) (hg : goodM a0 a1 a2 a3 a4 a5 l6 l7 l8 = true) : ∀ (d i : Nat) (n : Int), l6.length - i = d → i ≤ l6.length → 0 ≤ n → n + (sumS (l6.drop i) + 2 * (l6.drop i).length : Nat) + (sumS l8 + 2 * l8.length : Nat) = ((encL a0 a1 a2 a3 a4 a5 l6 l7 l8).length : Int) → Ev (fun k => estafettelaw12_BinSizes.l0 k n (i : Int) a0 a1 a2 a3 a4 a5 l6 l7 l8) true := by
  have hE := enc_len a0 a1 a2 a3 a4 a5 l6 l7 l8
  intro d
  induction d with
  | zero =>
    intro i n hd hi h0 hn
    obtain rfl : i = l6.length := by omega
    rw [List.drop_length] at hn
    have : sumS ([] : List ByteArray) = 0 := rfl
    rw [this] at hn
    simp only [List.length_nil] at hn
    refine Ev_succ ?_
    simp only [estafettelaw12_BinSizes.l0]
    exact ev_neg (by omega) (sizes_l1 a0 a1 a2 a3 a4 a5 l6 l7 l8 hz hg l8.length 0 n rfl (Nat.zero_le _) h0 (by rw [List.drop_zero]; omega))
  | succ d ih =>
    intro i n hd hi h0 hn
    have h : i < l6.length := by omega
    have hs := sumS_mem (List.getElem_mem h)
    rw [List.drop_eq_getElem_cons h, sumS_cons, List.length_cons] at hn
    refine Ev_succ ?_
    simp only [estafettelaw12_BinSizes.l0]
    refine ev_pos (by omega) (ev_pos (by omega) ?_)
    rw [rd_str l6 i h, (w_succ i (by omega)).out, Go.IntWalk.wrap64_in (n + 2) (by omega), Go.IntWalk.wrap64_in _ (by omega)]
    exact ih (i + 1) _ (by omega) (by omega) (by omega) (by omega)
theorem sizes_j0 (a0 a1 a2 a3 a4 : Int) (a5 : ByteArray) (l6 : List ByteArray) (l7 : List Int) (l8 : List ByteArray) (b : Bool) (h : b = false → (a5.size + l6.length + l7.length + l8.length + sumS l6 + sumS l8 < 5000 ∧ goodM a0 a1 a2 a3 a4 a5 l6 l7 l8 = true)) : Ev (fun k => estafettelaw12_BinSizes.j0 k b a0 a1 a2 a3 a4 a5 l6 l7 l8) true := by
  refine Ev_succ ?_
  simp only [estafettelaw12_BinSizes.j0]
  cases b with
  | true => exact ev_pos rfl (Ev.bind answers_ev (ev_now rfl))
  | false =>
    obtain ⟨hz, hg⟩ := h rfl
    have hE := enc_len a0 a1 a2 a3 a4 a5 l6 l7 l8
    refine ev_neg (by decide) ?_
    rw [Go.IntWalk.wrap64_in (33 + (a5.size : Int)) (by omega), Go.IntWalk.wrap64_in (33 + (a5.size : Int) + 2) (by omega), Go.IntWalk.wrap64_in (33 + (a5.size : Int) + 2 + 2) (by omega), Go.IntWalk.wrap64_in (33 + (a5.size : Int) + 2 + 2 + (l7.length : Int)) (by omega), Go.IntWalk.wrap64_in _ (by omega)]
    exact sizes_l0 a0 a1 a2 a3 a4 a5 l6 l7 l8 hz hg l6.length 0 _ rfl (Nat.zero_le _) (by omega) (by rw [List.drop_zero]; omega)
theorem BinSizes (a0 a1 a2 a3 a4 : Int) (a5 : ByteArray) (l6 : List ByteArray) (l7 : List Int) (l8 : List ByteArray) (h : Bnd a5 l6 l7 l8) : ∃ k, estafettelaw12_BinSizes.f k a0 a1 a2 a3 a4 a5 l6 l7 l8 = some true := by
  refine Ev.rounds ?_
  obtain ⟨b, hb, hb2⟩ := small_ev a0 a1 a2 a3 a4 a5 l6 l7 l8 h
  simp only [estafettelaw12_BinSizes.f]
  refine Ev.bind hb ?_
  cases b with
  | false => exact ev_neg (by decide) (sizes_j0 a0 a1 a2 a3 a4 a5 l6 l7 l8 true (fun e => by cases e))
  | true =>
    have hz := hb2 rfl
    have h8 := sizeL_sum l8
    refine ev_pos rfl (Ev.bind (ref_good_ev a0 a1 a2 a3 a4 a5 l6 l7 l8 (by omega) (fun s hs => by have := sumS_mem hs; omega) (by omega)) ?_)
    exact sizes_j0 a0 a1 a2 a3 a4 a5 l6 l7 l8 _ (fun e => ⟨hz, by simpa using e⟩)
end Go.Proofs.YtljhfaneepehcaaDoor.Addr
