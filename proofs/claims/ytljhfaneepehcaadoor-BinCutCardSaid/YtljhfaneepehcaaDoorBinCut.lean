/- BinCut, for every input. -/
import Derived.Test.YtljhfaneepehcaaDoorBinFore
import Derived.Test.YtljhfaneepehcaaDoorBinParse
import Derived.Test.YtljhfaneepehcaaDoorPFx1
namespace Go.Proofs.YtljhfaneepehcaaDoor.Addr
open Go.RowKit Go.Proofs.YtljhfaneepehcaaDoor.PF Go.Proofs.YtljhfaneepehcaaDoor.PC Go.Proofs.YtljhfaneepehcaaDoor.PB Go.Proofs.YtljhfaneepehcaaDoorW.PrintWords Go.Proofs.YtljhfaneepehcaaDoorW.PrintLast Go.Proofs.YtljhfaneepehcaaDoorW.PrintMore Go.Proofs.YtljhfaneepehcaaDoor.Hand
set_option linter.unusedVariables false
theorem bytes_same (a b : ByteArray) (h : a.toList = b.toList) : a = b := by
  rw [Lib.toList_data, Lib.toList_data] at h
  cases a
  cases b
  congr
  exact Array.toList_inj.1 h
theorem texts_same_loop (l m : List ByteArray) (he : l.length = m.length) (hl : l.length < 1000000000000) : ∀ (d i : Nat), l.length - i = d → i ≤ l.length → ∃ b, Ev (fun k => estafetteref01_Texts.l0 k l m (i : Int)) b ∧ (b = true → l.drop i = m.drop i) := by
  intro d
  induction d with
  | zero =>
    intro i hd hi
    refine ⟨true, Ev_succ ?_, fun _ => ?_⟩
    · simp only [estafetteref01_Texts.l0]
      exact ev_neg (by omega) (ev_now rfl)
    · rw [List.drop_of_length_le (by omega), List.drop_of_length_le (by omega)]
  | succ d ih =>
    intro i hd hi
    have h1 : i < l.length := by omega
    have h2 : i < m.length := by omega
    have r1 : rdOf ByteArray.empty l (i : Int) = l[i] := by unfold rdOf; simp [h1]
    have r2 : rdOf ByteArray.empty m (i : Int) = m[i] := by unfold rdOf; simp [h2]
    by_cases e : l[i].toList = m[i].toList
    · obtain ⟨b, hb, hb2⟩ := ih (i + 1) (by omega) (by omega)
      refine ⟨b, Ev_succ ?_, fun hbt => ?_⟩
      · simp only [estafetteref01_Texts.l0]
        refine ev_pos (by omega) (ev_pos (by omega) (ev_pos (by omega) (ev_pos (by rw [r1, r2]; exact e) ?_)))
        rw [(w_succ i (by omega)).out]
        exact hb
      · rw [List.drop_eq_getElem_cons h1, List.drop_eq_getElem_cons h2, hb2 hbt, bytes_same _ _ e]
    · refine ⟨false, Ev_succ ?_, by simp⟩
      simp only [estafetteref01_Texts.l0]
      exact ev_pos (by omega) (ev_pos (by omega) (ev_pos (by omega) (ev_neg (by rw [r1, r2]; exact e) (ev_now rfl))))
theorem texts_same (l m : List ByteArray) (hl : l.length < 1000000000000) : ∃ b, Ev (fun k => estafetteref01_Texts.f k l m) b ∧ (b = true → l = m) := by
  unfold estafetteref01_Texts.f
  by_cases he : l.length = m.length
  · obtain ⟨b, hb, hb2⟩ := texts_same_loop l m he hl l.length 0 rfl (Nat.zero_le _)
    exact ⟨b, ev_pos (by omega) hb, hb2⟩
  · exact ⟨false, ev_neg (by omega) (ev_now rfl), by simp⟩
theorem ints_same_loop (l m : List Int) (he : l.length = m.length) (hl : l.length < 1000000000000) : ∀ (d i : Nat), l.length - i = d → i ≤ l.length → ∃ b, Ev (fun k => estafetteref08_Ints.l0 k l m (i : Int)) b ∧ (b = true → l.drop i = m.drop i) := by
  intro d
  induction d with
  | zero =>
    intro i hd hi
    refine ⟨true, Ev_succ ?_, fun _ => ?_⟩
    · simp only [estafetteref08_Ints.l0]
      exact ev_neg (by omega) (ev_now rfl)
    · rw [List.drop_of_length_le (by omega), List.drop_of_length_le (by omega)]
  | succ d ih =>
    intro i hd hi
    have h1 : i < l.length := by omega
    have h2 : i < m.length := by omega
    have r1 : rd l (i : Int) = l[i] := by unfold rd; simp [h1]
    have r2 : rd m (i : Int) = m[i] := by unfold rd; simp [h2]
    by_cases e : l[i] = m[i]
    · obtain ⟨b, hb, hb2⟩ := ih (i + 1) (by omega) (by omega)
      refine ⟨b, Ev_succ ?_, fun hbt => ?_⟩
      · simp only [estafetteref08_Ints.l0]
        refine ev_pos (by omega) (ev_pos (by omega) (ev_pos (by omega) (ev_pos (by rw [r1, r2]; exact e) ?_)))
        rw [(w_succ i (by omega)).out]
        exact hb
      · rw [List.drop_eq_getElem_cons h1, List.drop_eq_getElem_cons h2, hb2 hbt, e]
    · refine ⟨false, Ev_succ ?_, by simp⟩
      simp only [estafetteref08_Ints.l0]
      exact ev_pos (by omega) (ev_pos (by omega) (ev_pos (by omega) (ev_neg (by rw [r1, r2]; exact e) (ev_now rfl))))
theorem ints_same (l m : List Int) (hl : l.length < 1000000000000) : ∃ b, Ev (fun k => estafetteref08_Ints.f k l m) b ∧ (b = true → l = m) := by
  unfold estafetteref08_Ints.f
  by_cases he : l.length = m.length
  · obtain ⟨b, hb, hb2⟩ := ints_same_loop l m he hl l.length 0 rfl (Nat.zero_le _)
    exact ⟨b, ev_pos (by omega) hb, hb2⟩
  · exact ⟨false, ev_neg (by omega) (ev_now rfl), by simp⟩
theorem same_dec (a0 a1 a2 a3 a4 : Int) (a5 : ByteArray) (l6 : List ByteArray) (l7 : List Int) (l8 : List ByteArray) (b0 b1 b2 b3 b4 : Int) (b5 : ByteArray) (m6 : List ByteArray) (m7 : List Int) (m8 : List ByteArray) (h6 : l6.length < 1000000000000) (h7 : l7.length < 1000000000000) (h8 : l8.length < 1000000000000) :
    ∃ b, Ev (fun k => estafetteref08_SameMessages.f k a0 a1 a2 a3 a4 a5 l6 l7 l8 b0 b1 b2 b3 b4 b5 m6 m7 m8) b ∧ (b = true → encL a0 a1 a2 a3 a4 a5 l6 l7 l8 = encL b0 b1 b2 b3 b4 b5 m6 m7 m8) := by
  unfold estafetteref08_SameMessages.f
  by_cases e0 : a0 = b0
  case neg => exact ⟨false, ev_neg e0 (ev_now rfl), by simp⟩
  by_cases e1 : a1 = b1
  case neg => exact ⟨false, ev_pos e0 (ev_neg e1 (ev_now rfl)), by simp⟩
  by_cases e2 : a2 = b2
  case neg => exact ⟨false, ev_pos e0 (ev_pos e1 (ev_neg e2 (ev_now rfl))), by simp⟩
  by_cases e3 : a3 = b3
  case neg => exact ⟨false, ev_pos e0 (ev_pos e1 (ev_pos e2 (ev_neg e3 (ev_now rfl)))), by simp⟩
  by_cases e4 : a4 = b4
  case neg => exact ⟨false, ev_pos e0 (ev_pos e1 (ev_pos e2 (ev_pos e3 (ev_neg e4 (ev_now rfl))))), by simp⟩
  by_cases e5 : a5.toList = b5.toList
  case neg => exact ⟨false, ev_pos e0 (ev_pos e1 (ev_pos e2 (ev_pos e3 (ev_pos e4 (ev_neg e5 (ev_now rfl)))))), by simp⟩
  obtain ⟨p, hp, hp2⟩ := texts_same l6 m6 h6
  obtain ⟨q, hq, hq2⟩ := ints_same l7 m7 h7
  obtain ⟨s, hs, hs2⟩ := texts_same l8 m8 h8
  cases p with
  | false => exact ⟨false, ev_pos e0 (ev_pos e1 (ev_pos e2 (ev_pos e3 (ev_pos e4 (ev_pos e5 (Ev.bind hp (ev_neg (by simp) (ev_now rfl)))))))), by simp⟩
  | true =>
    cases q with
    | false => exact ⟨false, ev_pos e0 (ev_pos e1 (ev_pos e2 (ev_pos e3 (ev_pos e4 (ev_pos e5 (Ev.bind hp (ev_pos rfl (Ev.bind hq (ev_neg (by simp) (ev_now rfl)))))))))), by simp⟩
    | true => exact ⟨s, ev_pos e0 (ev_pos e1 (ev_pos e2 (ev_pos e3 (ev_pos e4 (ev_pos e5 (Ev.bind hp (ev_pos rfl (Ev.bind hq (ev_pos rfl (Ev.bind hs (ev_now rfl))))))))))), fun h => by rw [e0, e1, e2, e3, e4, bytes_same _ _ e5, hp2 rfl, hq2 rfl, hs2 h]⟩
theorem dec_bad (l0 : List Int) (hB : l0.all okByte = true) (h : (decS l0).s.2 = true ∨ (decS l0).q ≠ 2 ∨ (decS l0).s.1 ≠ []) : Ev (fun k => Hand.bin_Decode.f k l0) noMsg := by
  simp only [Hand.bin_Decode.f]
  exact ev_pos hB (ev_pos h (ev_now rfl))
theorem oct_all {l : List Int} (h : Bytes l) : l.all okByte = true := by
  rw [List.all_eq_true]
  intro x hx
  unfold okByte
  rw [Bool.and_eq_true, decide_eq_true_iff, decide_eq_true_iff]
  exact h x hx
theorem dec_any (l0 : List Int) (hw : Bytes l0) (hl : l0.length ≤ 20000) : Ev (fun k => Hand.bin_Decode.f k l0) noMsg ∨ ∃ (a0 a1 a2 a3 a4 : Int) (a5 : ByteArray) (l6 : List ByteArray) (l7 : List Int) (l8 : List ByteArray), Ev (fun k => Hand.bin_Decode.f k l0) (a0, a1, a2, a3, a4, a5, l6, l7, l8, 0) ∧ encL a0 a1 a2 a3 a4 a5 l6 l7 l8 = l0 := by
  have hB := oct_all hw
  by_cases hbad : (decS l0).s.2 = true ∨ (decS l0).q ≠ 2 ∨ (decS l0).s.1 ≠ []
  · exact .inl (dec_bad l0 hB hbad)
  have hs : (decS l0).s.2 = false := by
    cases e : (decS l0).s.2 with
    | true => exact absurd (.inl e) hbad
    | false => rfl
  have hq : (decS l0).q = 2 := by
    by_cases e : (decS l0).q = 2
    · exact e
    · exact absurd (.inr (.inl e)) hbad
  have hr : (decS l0).s.1 = [] := by
    by_cases e : (decS l0).s.1 = []
    · exact e
    · exact absurd (.inr (.inr e)) hbad
  have hE := dec_enc l0 hw hs hq hr
  generalize hm : (decS l0).m = m at hE
  obtain ⟨a0, a1, a2, a3, a4, a5, l6, l7, l8⟩ := m
  dsimp only at hE
  have hn := enc_len a0 a1 a2 a3 a4 a5 l6 l7 l8
  rw [hE] at hn
  have h8 := sizeL_sum l8
  have hge := env_good_ev a0 a1 a2 a3 a4 a5 l6 l7 l8 (by omega) (fun s hs => by have := sumS_mem hs; omega) (by omega)
  cases hg : goodM a0 a1 a2 a3 a4 a5 l6 l7 l8 with
  | false =>
    rw [hg] at hge
    refine .inl ?_
    simp only [Hand.bin_Decode.f, hm]
    exact ev_pos hB (ev_neg hbad (Ev.bind hge (ev_neg (by decide) (ev_now rfl))))
  | true =>
    rw [hg] at hge
    refine .inr ⟨a0, a1, a2, a3, a4, a5, l6, l7, l8, ?_, hE⟩
    simp only [Hand.bin_Decode.f, hm]
    exact ev_pos hB (ev_neg hbad (Ev.bind hge (ev_pos rfl (ev_now rfl))))
theorem numB_oct (n : Int) (s : Nat) : Bytes (numB n s) := by
  induction s with
  | zero => exact fun x hx => by cases hx
  | succ s ih =>
    intro x hx
    rw [numB] at hx
    rcases List.mem_cons.1 hx with rfl | hx
    · exact ⟨Int.emod_nonneg _ (by decide), Int.emod_lt_of_pos _ (by decide)⟩
    · exact ih x hx
theorem textB_oct (s : ByteArray) : Bytes (textB s) := by
  intro x hx
  unfold textB bytesOf at hx
  rcases List.mem_append.1 hx with hx | hx
  · exact numB_oct _ _ x hx
  · obtain ⟨b, _, rfl⟩ := List.mem_map.1 hx
    have := b.toNat_lt
    omega
theorem oct_app {a b : List Int} (ha : Bytes a) (hb : Bytes b) : Bytes (a ++ b) := fun x hx => (List.mem_append.1 hx).elim (ha x) (hb x)
theorem oct_flat {α : Type} (F : α → List Int) (h : ∀ x, Bytes (F x)) (l : List α) : Bytes (l.flatMap F) := fun x hx => by
  obtain ⟨y, _, hy⟩ := List.mem_flatMap.1 hx
  exact h y x hy
theorem enc_oct (a0 a1 a2 a3 a4 : Int) (a5 : ByteArray) (l6 : List ByteArray) (l7 : List Int) (l8 : List ByteArray) : Bytes (encL a0 a1 a2 a3 a4 a5 l6 l7 l8) := by
  unfold encL
  intro x hx
  rcases List.mem_cons.1 hx with rfl | hx
  · exact ⟨by decide, by decide⟩
  exact oct_app (oct_flat _ (fun n => numB_oct n 6) _) (oct_app (textB_oct a5) (oct_app (numB_oct _ _) (oct_app (oct_flat _ textB_oct _) (oct_app (numB_oct _ _) (oct_app (oct_flat _ (fun n => numB_oct n 1) _) (oct_app (numB_oct _ _) (oct_flat _ textB_oct _))))))) x hx
theorem BinCut (a0 a1 a2 a3 a4 : Int) (a5 : ByteArray) (l6 : List ByteArray) (l7 : List Int) (l8 : List ByteArray) (n : Int) (more : List Int) (h : Bnd a5 l6 l7 l8) (hn0 : 0 ≤ n) (hn1 : n < 65536) (hmo : Bytes more) : ∃ k, estafettelaw12_BinCut.f k a0 a1 a2 a3 a4 a5 l6 l7 l8 n more = some true := by
  refine Ev.rounds ?_
  have out : Ev (fun k => estafettelaw12_BinCut.j0 k n more true a0 a1 a2 a3 a4 a5 l6 l7 l8) true := by
    refine Ev_succ ?_
    simp only [estafettelaw12_BinCut.j0]
    exact ev_pos (by trivial) (Ev.bind answers_ev (ev_now rfl))
  obtain ⟨b, hb, hb2⟩ := small_ev a0 a1 a2 a3 a4 a5 l6 l7 l8 h
  simp only [estafettelaw12_BinCut.f]
  refine Ev.bind hb ?_
  cases b with
  | false => exact ev_neg (by decide) out
  | true =>
    have hz := hb2 rfl
    have h8 := sizeL_sum l8
    have hgr := ref_good_ev a0 a1 a2 a3 a4 a5 l6 l7 l8 (by omega) (fun s hs => by have := sumS_mem hs; omega) (by omega)
    refine ev_pos rfl ?_
    cases hg : goodM a0 a1 a2 a3 a4 a5 l6 l7 l8 with
    | false =>
      rw [hg] at hgr
      exact Ev.bind hgr (ev_neg (by decide) out)
    | true =>
      rw [hg] at hgr
      refine Ev.bind hgr (ev_pos rfl ?_)
      by_cases hm0 : (more.length : Int) = 0
      · exact ev_pos hm0 out
      refine ev_neg hm0 ?_
      by_cases hm20 : (more.length : Int) > 20
      · rw [decide_eq_true hm20]
        exact out
      rw [decide_eq_false hm20]
      refine Ev_succ ?_
      simp only [estafettelaw12_BinCut.j0]
      refine ev_neg (by decide) (Ev.bind (bytes_ev a0 a1 a2 a3 a4 a5 l6 l7 l8 (by omega) hg) ?_)
      have hel := enc_len a0 a1 a2 a3 a4 a5 l6 l7 l8
      have hoc := enc_oct a0 a1 a2 a3 a4 a5 l6 l7 l8
      have hfo := dec_fore a0 a1 a2 a3 a4 a5 l6 l7 l8 more hz hg
      generalize hE : encL a0 a1 a2 a3 a4 a5 l6 l7 l8 = E at hel hoc hfo ⊢
      have hwn : wrap64 n = n := by unfold wrap64; omega
      have hq0 : 0 ≤ Int.tmod (wrap64 n) (E.length : Int) := by
        rw [hwn]
        exact Int.tmod_nonneg _ hn0
      have hq1 : Int.tmod (wrap64 n) (E.length : Int) < (E.length : Int) := by
        rw [hwn]
        exact Int.tmod_lt_of_pos _ (by omega)
      generalize Int.tmod (wrap64 n) (E.length : Int) = q at hq0 hq1 ⊢
      have hd2 : Ev (fun k => Hand.bin_Decode.f k (E ++ more)) noMsg := by
        refine dec_bad _ (oct_all (oct_app hoc hmo)) (.inr (.inr ?_))
        rw [hfo]
        intro e
        rw [show more = [] from e] at hm0
        simp at hm0
      refine ev_neg (by omega) (ev_pos hq0 (ev_pos (by omega) ?_))
      rcases dec_any (E.take q.toNat) (fun x hx => hoc x (List.mem_of_mem_take hx)) (by rw [List.length_take]; omega) with hd | ⟨b0, b1, b2, b3, b4, b5, m6, m7, m8, hd, he⟩
      · refine Ev.bind hd (ev_some (ev_pos (by simp; omega) (ev_some (ev_pos (by simp; omega) ?_))))
        rw [List.nil_append]
        exact Ev.bind hd2 (Ev.bind answers_ev (ev_pos rfl (ev_pos rfl (ev_pos rfl (ev_now rfl)))))
      · have hel2 := enc_len b0 b1 b2 b3 b4 b5 m6 m7 m8
        rw [he, List.length_take] at hel2
        obtain ⟨s, hs, hs2⟩ := same_dec b0 b1 b2 b3 b4 b5 m6 m7 m8 a0 a1 a2 a3 a4 a5 l6 l7 l8 (by omega) (by omega) (by omega)
        have hsf : s = false := by
          cases s with
          | false => rfl
          | true =>
            have e := hs2 rfl
            rw [he, hE] at e
            have e2 := congrArg List.length e
            rw [List.length_take] at e2
            omega
        subst hsf
        refine Ev.bind hd (ev_some (ev_pos (by simp; omega) (ev_some (ev_pos (by simp; omega) ?_))))
        rw [List.nil_append]
        exact Ev.bind hd2 (Ev.bind answers_ev (ev_pos rfl (ev_neg (by simp) (Ev.bind hs (ev_neg (by decide) (ev_pos rfl (ev_now rfl)))))))
end Go.Proofs.YtljhfaneepehcaaDoor.Addr
