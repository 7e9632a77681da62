/- BinBack, for every input. -/
import Derived.Test.YtljhfaneepehcaaDoorBinFore
import Derived.Test.YtljhfaneepehcaaDoorPEx1
namespace Go.Proofs.YtljhfaneepehcaaDoor.Addr
open Go.RowKit Go.Proofs.YtljhfaneepehcaaDoor.PE Go.Proofs.YtljhfaneepehcaaDoor.PC Go.Proofs.YtljhfaneepehcaaDoor.PB Go.Proofs.YtljhfaneepehcaaDoorW.PrintWords Go.Proofs.YtljhfaneepehcaaDoorW.PrintLast Go.Proofs.YtljhfaneepehcaaDoorW.PrintMore Go.Proofs.YtljhfaneepehcaaDoor.Hand
set_option linter.unusedVariables false
theorem texts_loop (l : List ByteArray) (hl : l.length < 1000000000000) : ∀ (d i : Nat), l.length - i = d → i ≤ l.length → Ev (fun k => estafetteref01_Texts.l0 k l l (i : Int)) true := by
  intro d
  induction d with
  | zero =>
    intro i hd hi
    refine Ev_succ ?_
    simp only [estafetteref01_Texts.l0]
    exact ev_neg (by omega) (ev_now rfl)
  | succ d ih =>
    intro i hd hi
    refine Ev_succ ?_
    simp only [estafetteref01_Texts.l0]
    refine ev_pos (by omega) (ev_pos (by omega) (ev_pos (by omega) (ev_pos (by trivial) ?_)))
    rw [(w_succ i (by omega)).out]
    exact ih (i + 1) (by omega) (by omega)
theorem texts_ev (l : List ByteArray) (hl : l.length < 1000000000000) : Ev (fun k => estafetteref01_Texts.f k l l) true := by
  unfold estafetteref01_Texts.f
  exact ev_pos rfl (texts_loop l hl l.length 0 rfl (Nat.zero_le _))
theorem ints_loop (l : List Int) (hl : l.length < 1000000000000) : ∀ (d i : Nat), l.length - i = d → i ≤ l.length → Ev (fun k => estafetteref08_Ints.l0 k l l (i : Int)) true := by
  intro d
  induction d with
  | zero =>
    intro i hd hi
    refine Ev_succ ?_
    simp only [estafetteref08_Ints.l0]
    exact ev_neg (by omega) (ev_now rfl)
  | succ d ih =>
    intro i hd hi
    refine Ev_succ ?_
    simp only [estafetteref08_Ints.l0]
    refine ev_pos (by omega) (ev_pos (by omega) (ev_pos (by omega) (ev_pos (by trivial) ?_)))
    rw [(w_succ i (by omega)).out]
    exact ih (i + 1) (by omega) (by omega)
theorem ints_ev (l : List Int) (hl : l.length < 1000000000000) : Ev (fun k => estafetteref08_Ints.f k l l) true := by
  unfold estafetteref08_Ints.f
  exact ev_pos rfl (ints_loop l hl l.length 0 rfl (Nat.zero_le _))
theorem same_ev (a0 a1 a2 a3 a4 : Int) (a5 : ByteArray) (l6 : List ByteArray) (l7 : List Int) (l8 : List ByteArray) (h6 : l6.length < 1000000000000) (h7 : l7.length < 1000000000000) (h8 : l8.length < 1000000000000) : Ev (fun k => estafetteref08_SameMessages.f k a0 a1 a2 a3 a4 a5 l6 l7 l8 a0 a1 a2 a3 a4 a5 l6 l7 l8) true := by
  unfold estafetteref08_SameMessages.f
  exact ev_pos rfl (ev_pos rfl (ev_pos rfl (ev_pos rfl (ev_pos rfl (ev_pos rfl (Ev.bind (texts_ev l6 h6) (ev_pos rfl (Ev.bind (ints_ev l7 h7) (ev_pos rfl (Ev.bind (texts_ev l8 h8) (ev_now rfl)))))))))))
theorem numB_oct (n : Int) (s : Nat) : Bytes (numB n s) := by
  induction s with
  | zero => exact fun x hx => by cases hx
  | succ s ih =>
    intro x hx
    rw [numB] at hx
    rcases List.mem_cons.1 hx with rfl | hx
    · exact ⟨Int.emod_nonneg _ (by decide), Int.emod_lt_of_pos _ (by decide)⟩
    · exact ih x hx
theorem textB_oct (s : ByteArray) : Bytes (textB s) := by
  intro x hx
  unfold textB bytesOf at hx
  rcases List.mem_append.1 hx with hx | hx
  · exact numB_oct _ _ x hx
  · obtain ⟨b, _, rfl⟩ := List.mem_map.1 hx
    have := b.toNat_lt
    omega
theorem oct_app {a b : List Int} (ha : Bytes a) (hb : Bytes b) : Bytes (a ++ b) := fun x hx => (List.mem_append.1 hx).elim (ha x) (hb x)
theorem oct_flat {α : Type} (F : α → List Int) (h : ∀ x, Bytes (F x)) (l : List α) : Bytes (l.flatMap F) := fun x hx => by
  obtain ⟨y, _, hy⟩ := List.mem_flatMap.1 hx
  exact h y x hy
theorem enc_oct (a0 a1 a2 a3 a4 : Int) (a5 : ByteArray) (l6 : List ByteArray) (l7 : List Int) (l8 : List ByteArray) : Bytes (encL a0 a1 a2 a3 a4 a5 l6 l7 l8) := by
  unfold encL
  intro x hx
  rcases List.mem_cons.1 hx with rfl | hx
  · exact ⟨by decide, by decide⟩
  exact oct_app (oct_flat _ (fun n => numB_oct n 6) _) (oct_app (textB_oct a5) (oct_app (numB_oct _ _) (oct_app (oct_flat _ textB_oct _) (oct_app (numB_oct _ _) (oct_app (oct_flat _ (fun n => numB_oct n 1) _) (oct_app (numB_oct _ _) (oct_flat _ textB_oct _))))))) x hx
theorem oct_all {l : List Int} (h : Bytes l) : l.all okByte = true := by
  rw [List.all_eq_true]
  intro x hx
  unfold okByte
  rw [Bool.and_eq_true, decide_eq_true_iff, decide_eq_true_iff]
  exact h x hx
theorem dec_good (a0 a1 a2 a3 a4 : Int) (a5 : ByteArray) (l6 : List ByteArray) (l7 : List Int) (l8 : List ByteArray) (hz : a5.size + l6.length + l7.length + l8.length + sumS l6 + sumS l8 < 5000) (hg : goodM a0 a1 a2 a3 a4 a5 l6 l7 l8 = true) :
    Ev (fun k => Hand.bin_Decode.f k (encL a0 a1 a2 a3 a4 a5 l6 l7 l8)) (a0, a1, a2, a3, a4, a5, l6, l7, l8, 0) := by
  have h8 := sizeL_sum l8
  have hge := env_good_ev a0 a1 a2 a3 a4 a5 l6 l7 l8 (by omega) (fun s hs => by have := sumS_mem hs; omega) (by omega)
  rw [hg] at hge
  have hd := dec_fore a0 a1 a2 a3 a4 a5 l6 l7 l8 [] hz hg
  rw [List.append_nil] at hd
  simp only [Hand.bin_Decode.f, hd]
  exact ev_pos (oct_all (enc_oct a0 a1 a2 a3 a4 a5 l6 l7 l8)) (ev_neg (by simp) (Ev.bind hge (ev_pos rfl (ev_now rfl))))
theorem BinBack (a0 a1 a2 a3 a4 : Int) (a5 : ByteArray) (l6 : List ByteArray) (l7 : List Int) (l8 : List ByteArray) (h : Bnd a5 l6 l7 l8) : ∃ k, estafettelaw12_BinBack.f k a0 a1 a2 a3 a4 a5 l6 l7 l8 = some true := by
  refine Ev.rounds ?_
  obtain ⟨b, hb, hb2⟩ := small_ev a0 a1 a2 a3 a4 a5 l6 l7 l8 h
  simp only [estafettelaw12_BinBack.f]
  refine Ev.bind hb ?_
  cases b with
  | false => exact ev_neg (by decide) (Ev.bind answers_ev (ev_now rfl))
  | true =>
    have hz := hb2 rfl
    have h8 := sizeL_sum l8
    have hgr := ref_good_ev a0 a1 a2 a3 a4 a5 l6 l7 l8 (by omega) (fun s hs => by have := sumS_mem hs; omega) (by omega)
    refine ev_pos rfl ?_
    cases hg : goodM a0 a1 a2 a3 a4 a5 l6 l7 l8 with
    | true =>
      rw [hg] at hgr
      refine Ev.bind (enc_ev a0 a1 a2 a3 a4 a5 l6 l7 l8 (by omega) hg) (Ev.bind hgr (ev_pos rfl (Ev.bind (dec_good a0 a1 a2 a3 a4 a5 l6 l7 l8 hz hg) (Ev.bind answers_ev (ev_pos rfl (ev_pos rfl ?_))))))
      exact Ev.bind (bytes_ev a0 a1 a2 a3 a4 a5 l6 l7 l8 (by omega) hg) (ev_pos rfl (ev_pos rfl (Ev.bind (same_ev a0 a1 a2 a3 a4 a5 l6 l7 l8 (by omega) (by omega) (by omega)) (ev_now rfl))))
    | false =>
      rw [hg] at hgr
      have hge := env_good_ev a0 a1 a2 a3 a4 a5 l6 l7 l8 (by omega) (fun s hs => by have := sumS_mem hs; omega) (by omega)
      rw [hg] at hge
      have he : Ev (fun k => Hand.bin_Encode.f k a0 a1 a2 a3 a4 a5 l6 l7 l8) ([], 2) := by
        simp only [Hand.bin_Encode.f]
        exact Ev.bind hge (ev_neg (by decide) (ev_now rfl))
      exact Ev.bind he (Ev.bind hgr (ev_neg (by decide) (Ev.bind answers_ev (ev_pos rfl (ev_pos rfl (ev_now rfl))))))
end Go.Proofs.YtljhfaneepehcaaDoor.Addr
