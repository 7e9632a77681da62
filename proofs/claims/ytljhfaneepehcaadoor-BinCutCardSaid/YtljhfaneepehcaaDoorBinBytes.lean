/- The document's bytes of a message are those of the program. -/
import Derived.Test.YtljhfaneepehcaaDoorBinEnc
import Derived.Test.YtljhfaneepehcaaDoorPBx2
namespace Go.Proofs.YtljhfaneepehcaaDoor.Addr
open Go.RowKit Go.Proofs.YtljhfaneepehcaaDoor.PC Go.Proofs.YtljhfaneepehcaaDoor.PB Go.Proofs.YtljhfaneepehcaaDoorW.PrintWords Go.Proofs.YtljhfaneepehcaaDoorW.PrintLast Go.Proofs.YtljhfaneepehcaaDoorW.PrintMore Go.Proofs.YtljhfaneepehcaaDoor.Hand
set_option linter.unusedVariables false
theorem numB_snoc (n : Int) (s : Nat) : numB n (s + 1) = numB (n / 256) s ++ [n % 256] := by
  induction s with
  | zero => simp [numB]
  | succ s ih =>
    rw [numB, ih]
    show _ = (n / 256 / 2 ^ (8 * s)) % 256 :: numB (n / 256) s ++ [n % 256]
    have : n / 2 ^ (8 * (s + 1)) = n / 256 / 2 ^ (8 * s) := by
      rw [Int.ediv_ediv_of_nonneg (by decide)]
      congr 1
      rw [Nat.mul_succ, Int.pow_add]
      have : (2 : Int) ^ 8 = 256 := by decide
      rw [this, Int.mul_comm]
    rw [this]
    rfl
theorem set_rep (s : Nat) (d : List Int) (v : Int) : (List.replicate (s + 1) 0 ++ d).set s v = List.replicate s 0 ++ v :: d := by
  rw [List.replicate_succ', List.append_assoc, List.set_append_right _ _ (by simp)]
  simp
theorem num_loop : ∀ (s : Nat) (n : Int) (d : List Int), 0 ≤ n → n < 4611686018427387904 → s ≤ 6 → Ev (fun k => estafetteref08_num.l0 k n (List.replicate s 0 ++ d) ((s : Int) - 1)) (numB n s ++ d) := by
  intro s
  induction s with
  | zero =>
    intro n d h0 h1 hs
    refine Ev_succ ?_
    simp only [estafetteref08_num.l0]
    exact ev_neg (by omega) (ev_now rfl)
  | succ s ih =>
    intro n d h0 h1 hs
    refine Ev_succ ?_
    simp only [estafetteref08_num.l0]
    refine ev_pos (by omega) (ev_pos (by omega) (ev_pos (by simp; omega) ?_))
    have e1 : (((s + 1 : Nat) : Int) - 1).toNat = s := by omega
    have e2 : wrap64 (((s + 1 : Nat) : Int) - 1 - 1) = (s : Int) - 1 := by rw [Go.IntWalk.wrap64_in _ (by omega)]; omega
    rw [e1, e2, set_rep, Int.tdiv_eq_ediv_of_nonneg h0, Int.tmod_eq_emod_of_nonneg h0, Go.IntWalk.wrap64_in (n / 256) (by omega), show n % 256 % 256 = n % 256 by omega]
    have := ih (n / 256) (n % 256 :: d) (by omega) (by omega) (by omega)
    rw [numB_snoc, List.append_assoc]
    exact this
theorem num_ev (n : Int) (s : Nat) (h0 : 0 ≤ n) (h1 : n < 4611686018427387904) (hs : s ≤ 6) : Ev (fun k => estafetteref08_num.f k n (s : Int)) (numB n s) := by
  simp only [estafetteref08_num.f]
  refine ev_pos (by omega) (ev_pos (by omega) ?_)
  have := num_loop s n [] h0 h1 hs
  rw [List.append_nil, List.append_nil] at this
  rw [Int.toNat_natCast, Go.IntWalk.wrap64_in ((s : Int) - 1) (by omega)]
  exact this
theorem rtext_ev (s : ByteArray) (h : s.size < 1000000000) : Ev (fun k => estafetteref08_text.f k s) (textB s) := by
  simp only [estafetteref08_text.f]
  refine Ev.bind (num_ev (s.size : Int) 2 (by omega) (by omega) (by omega)) (ev_pos ?_ (ev_now rfl))
  rw [numB_len]
  omega
theorem len_of {a b c : List Int} (h : a ++ b = c) (hc : c.length ≤ 1000000000) : a.length + b.length ≤ 1000000000 := by
  rw [← h, List.length_append] at hc
  exact hc
theorem numB_one (n : Int) : numB n 1 = [n % 256] := by simp [numB]
def tail3 (l8 : List ByteArray) : List Int := l8.flatMap textB
def tail2 (l7 : List Int) (l8 : List ByteArray) : List Int := l7.flatMap (numB · 1) ++ (numB (l8.length : Int) 4 ++ l8.flatMap textB)
def tail1 (l6 : List ByteArray) (l7 : List Int) (l8 : List ByteArray) : List Int := l6.flatMap textB ++ (numB (l7.length : Int) 2 ++ tail2 l7 l8)
theorem bytes_l3 (a0 a1 a2 a3 a4 : Int) (a5 : ByteArray) (l6 : List ByteArray) (l7 : List Int) (l8 : List ByteArray) (E : List Int) (hE : E.length ≤ 1000000000) (hn8 : l8.length ≤ 1000000) : ∀ (d i : Nat) (x : List Int), l8.length - i = d → i ≤ l8.length → x ++ (l8.drop i).flatMap textB = E → Ev (fun k => estafetteref08_Bytes.l3 k x (i : Int) a0 a1 a2 a3 a4 a5 l6 l7 l8) E := by
  intro d
  induction d with
  | zero =>
    intro i x hd hi hx
    obtain rfl : i = l8.length := by omega
    rw [List.drop_length, List.flatMap_nil, List.append_nil] at hx
    refine Ev_succ ?_
    simp only [estafetteref08_Bytes.l3]
    exact ev_neg (by omega) (ev_now hx)
  | succ d ih =>
    intro i x hd hi hx
    have h : i < l8.length := by omega
    rw [List.drop_eq_getElem_cons h, List.flatMap_cons] at hx
    have hl := len_of hx hE
    rw [List.length_append, text_len] at hl
    refine Ev_succ ?_
    simp only [estafetteref08_Bytes.l3]
    refine ev_pos (by omega) (ev_pos (by omega) ?_)
    rw [rd_str l8 i h]
    refine Ev.bind (rtext_ev l8[i] (by omega)) (ev_pos (by rw [text_len]; omega) ?_)
    rw [(w_succ i (by omega)).out]
    exact ih (i + 1) _ (by omega) (by omega) (by rw [List.append_assoc]; exact hx)
theorem bytes_l2 (a0 a1 a2 a3 a4 : Int) (a5 : ByteArray) (l6 : List ByteArray) (l7 : List Int) (l8 : List ByteArray) (E : List Int) (hE : E.length ≤ 1000000000) (hn7 : l7.length ≤ 1000000) (hn8 : l8.length ≤ 1000000) : ∀ (d i : Nat) (x : List Int), l7.length - i = d → i ≤ l7.length → x ++ ((l7.drop i).flatMap (numB · 1) ++ (numB (l8.length : Int) 4 ++ l8.flatMap textB)) = E → Ev (fun k => estafetteref08_Bytes.l2 k x (i : Int) a0 a1 a2 a3 a4 a5 l6 l7 l8) E := by
  intro d
  induction d with
  | zero =>
    intro i x hd hi hx
    obtain rfl : i = l7.length := by omega
    rw [List.drop_length, List.flatMap_nil, List.nil_append] at hx
    have hl := len_of hx hE
    refine Ev_succ ?_
    simp only [estafetteref08_Bytes.l2]
    refine ev_neg (by omega) (Ev.bind (num_ev (l8.length : Int) 4 (by omega) (by omega) (by omega)) (ev_pos (by rw [numB_len]; omega) ?_))
    exact bytes_l3 a0 a1 a2 a3 a4 a5 l6 l7 l8 E hE hn8 l8.length 0 _ rfl (Nat.zero_le _) (by rw [List.append_assoc]; exact hx)
  | succ d ih =>
    intro i x hd hi hx
    have h : i < l7.length := by omega
    rw [List.drop_eq_getElem_cons h, List.flatMap_cons, List.append_assoc] at hx
    have hl := len_of hx hE
    refine Ev_succ ?_
    simp only [estafetteref08_Bytes.l2]
    refine ev_pos (by omega) (ev_pos (by omega) (ev_pos (by omega) ?_))
    rw [rd_int l7 i h, (w_succ i (by omega)).out, ← numB_one]
    exact ih (i + 1) _ (by omega) (by omega) (by rw [List.append_assoc]; exact hx)
theorem bytes_l1 (a0 a1 a2 a3 a4 : Int) (a5 : ByteArray) (l6 : List ByteArray) (l7 : List Int) (l8 : List ByteArray) (E : List Int) (hE : E.length ≤ 1000000000) (hn6 : l6.length ≤ 1000000) (hn7 : l7.length ≤ 1000000) (hn8 : l8.length ≤ 1000000) : ∀ (d i : Nat) (x : List Int), l6.length - i = d → i ≤ l6.length → x ++ ((l6.drop i).flatMap textB ++ (numB (l7.length : Int) 2 ++ (l7.flatMap (numB · 1) ++ (numB (l8.length : Int) 4 ++ l8.flatMap textB)))) = E → Ev (fun k => estafetteref08_Bytes.l1 k x (i : Int) a0 a1 a2 a3 a4 a5 l6 l7 l8) E := by
  intro d
  induction d with
  | zero =>
    intro i x hd hi hx
    obtain rfl : i = l6.length := by omega
    rw [List.drop_length, List.flatMap_nil, List.nil_append] at hx
    have hl := len_of hx hE
    refine Ev_succ ?_
    simp only [estafetteref08_Bytes.l1]
    refine ev_neg (by omega) (Ev.bind (num_ev (l7.length : Int) 2 (by omega) (by omega) (by omega)) (ev_pos (by rw [numB_len]; omega) ?_))
    exact bytes_l2 a0 a1 a2 a3 a4 a5 l6 l7 l8 E hE hn7 hn8 l7.length 0 _ rfl (Nat.zero_le _) (by rw [List.append_assoc]; exact hx)
  | succ d ih =>
    intro i x hd hi hx
    have h : i < l6.length := by omega
    rw [List.drop_eq_getElem_cons h, List.flatMap_cons, List.append_assoc] at hx
    have hl := len_of hx hE
    rw [List.length_append, text_len] at hl
    refine Ev_succ ?_
    simp only [estafetteref08_Bytes.l1]
    refine ev_pos (by omega) (ev_pos (by omega) ?_)
    rw [rd_str l6 i h]
    refine Ev.bind (rtext_ev l6[i] (by omega)) (ev_pos (by rw [text_len]; omega) ?_)
    rw [(w_succ i (by omega)).out]
    exact ih (i + 1) _ (by omega) (by omega) (by rw [List.append_assoc]; exact hx)
theorem bytes_l0 (a0 a1 a2 a3 a4 : Int) (a5 : ByteArray) (l6 : List ByteArray) (l7 : List Int) (l8 : List ByteArray) (E : List Int) (hE : E.length ≤ 1000000000) (hn6 : l6.length ≤ 1000000) (hn7 : l7.length ≤ 1000000) (hn8 : l8.length ≤ 1000000) (L : List Int) (hL : L.length = 5) (hok : L.all okNum = true) : ∀ (d i : Nat) (x : List Int), 5 - i = d → i ≤ 5 → x ++ ((L.drop i).flatMap (numB · 6) ++ (textB a5 ++ (numB (l6.length : Int) 2 ++ (l6.flatMap textB ++ (numB (l7.length : Int) 2 ++ (l7.flatMap (numB · 1) ++ (numB (l8.length : Int) 4 ++ l8.flatMap textB))))))) = E → Ev (fun k => estafetteref08_Bytes.l0 k x L (i : Int) a0 a1 a2 a3 a4 a5 l6 l7 l8) E := by
  intro d
  induction d with
  | zero =>
    intro i x hd hi hx
    obtain rfl : i = 5 := by omega
    rw [List.drop_of_length_le (by omega), List.flatMap_nil, List.nil_append] at hx
    have hl := len_of hx hE
    rw [List.length_append, text_len] at hl
    refine Ev_succ ?_
    simp only [estafetteref08_Bytes.l0]
    refine ev_neg (by omega) (Ev.bind (rtext_ev a5 (by omega)) (ev_pos (by rw [text_len]; omega) (ev_some ?_)))
    refine Ev.bind (num_ev (l6.length : Int) 2 (by omega) (by omega) (by omega)) (ev_pos (by rw [numB_len, List.length_append, text_len]; omega) ?_)
    exact bytes_l1 a0 a1 a2 a3 a4 a5 l6 l7 l8 E hE hn6 hn7 hn8 l6.length 0 _ rfl (Nat.zero_le _) (by rw [List.append_assoc, List.append_assoc]; exact hx)
  | succ d ih =>
    intro i x hd hi hx
    have h : i < L.length := by omega
    rw [List.drop_eq_getElem_cons h, List.flatMap_cons, List.append_assoc] at hx
    have hl := len_of hx hE
    have hq := List.all_eq_true.1 hok _ (List.getElem_mem h)
    unfold okNum at hq
    rw [Bool.and_eq_true, decide_eq_true_iff, decide_eq_true_iff] at hq
    refine Ev_succ ?_
    simp only [estafetteref08_Bytes.l0]
    refine ev_pos (by omega) (ev_pos (by omega) (ev_pos (by omega) ?_))
    rw [rd_int L i h]
    refine Ev.bind (num_ev L[i] 6 hq.1 hq.2 (by omega)) (ev_pos (by rw [numB_len]; omega) ?_)
    rw [(w_succ i (by omega)).out]
    exact ih (i + 1) _ (by omega) (by omega) (by rw [List.append_assoc]; exact hx)
theorem bytes_ev (a0 a1 a2 a3 a4 : Int) (a5 : ByteArray) (l6 : List ByteArray) (l7 : List Int) (l8 : List ByteArray) (hz : a5.size + l6.length + l7.length + l8.length + sumS l6 + sumS l8 < 1000000) (hg : goodM a0 a1 a2 a3 a4 a5 l6 l7 l8 = true) :
    Ev (fun k => estafetteref08_Bytes.f k a0 a1 a2 a3 a4 a5 l6 l7 l8) (encL a0 a1 a2 a3 a4 a5 l6 l7 l8) := by
  have hE := enc_len a0 a1 a2 a3 a4 a5 l6 l7 l8
  unfold goodM at hg
  simp only [Bool.and_eq_true] at hg
  simp only [estafetteref08_Bytes.f]
  exact bytes_l0 a0 a1 a2 a3 a4 a5 l6 l7 l8 _ (by omega) (by omega) (by omega) (by omega) [a0, a1, a2, a3, a4] rfl (ok_time _ hg.1) 5 0 [2] rfl (Nat.zero_le _) rfl
end Go.Proofs.YtljhfaneepehcaaDoor.Addr
