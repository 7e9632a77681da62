/- BinReads, for every input. -/
import Derived.Test.YtljhfaneepehcaaDoorBinParse
import Derived.Test.YtljhfaneepehcaaDoorPGx1
namespace Go.Proofs.YtljhfaneepehcaaDoor.Addr
open Go.RowKit Go.Proofs.YtljhfaneepehcaaDoor.PG Go.Proofs.YtljhfaneepehcaaDoor.PC Go.Proofs.YtljhfaneepehcaaDoor.PB Go.Proofs.YtljhfaneepehcaaDoorW.PrintWords Go.Proofs.YtljhfaneepehcaaDoorW.PrintLast Go.Proofs.YtljhfaneepehcaaDoorW.PrintMore Go.Proofs.YtljhfaneepehcaaDoor.Hand
set_option linter.unusedVariables false
theorem dec_ev_bad (l0 : List Int) (hB : l0.all okByte = true) (h : (decS l0).s.2 = true ∨ (decS l0).q ≠ 2 ∨ (decS l0).s.1 ≠ []) : Ev (fun k => Hand.bin_Decode.f k l0) noMsg := by
  simp only [Hand.bin_Decode.f]
  exact ev_pos hB (ev_pos h (ev_now rfl))
theorem texts_nil : Ev (fun k => estafetteref01_Texts.f k [] []) true := by
  unfold estafetteref01_Texts.f
  refine ev_pos rfl (Ev_succ ?_)
  simp only [estafetteref01_Texts.l0]
  exact ev_neg (by simp) (ev_now rfl)
theorem ints_nil : Ev (fun k => estafetteref08_Ints.f k [] []) true := by
  unfold estafetteref08_Ints.f
  refine ev_pos rfl (Ev_succ ?_)
  simp only [estafetteref08_Ints.l0]
  exact ev_neg (by simp) (ev_now rfl)
theorem same_no : Ev (fun k => estafetteref08_SameMessages.f k 0 0 0 0 0 (⟨#[]⟩ : ByteArray) [] [] [] 0 0 0 0 0 (⟨#[]⟩ : ByteArray) [] [] []) true := Ev.of (k := 5) (estafetteref08_SameMessages.mono _ _ _ _ _ _ _ _ _ _ _ _ _ _ _ _ _ _) (by decide +kernel)
theorem all_oct {l : List Int} (h : ∀ x ∈ l, 0 ≤ x ∧ x < 256) : l.all okByte = true := by
  rw [List.all_eq_true]
  intro x hx
  unfold okByte
  rw [Bool.and_eq_true, decide_eq_true_iff, decide_eq_true_iff]
  exact h x hx
theorem BinReads (l0 : List Int) (hw : ∀ x ∈ l0, 0 ≤ x ∧ x < 256) : ∃ k, estafettelaw12_BinReads.f k l0 = some true := by
  refine Ev.rounds ?_
  simp only [estafettelaw12_BinReads.f]
  by_cases hl : (l0.length : Int) > 5000
  · exact ev_pos hl (Ev.bind answers_ev (ev_now rfl))
  refine ev_neg hl (ev_some (ev_pos (by simp; omega) ?_))
  rw [List.nil_append]
  have no : Ev (fun k => Hand.bin_Decode.f k l0) noMsg → Ev (fun k => (Hand.bin_Decode.f k l0).bind fun bt163 => (if bt163.2.2.2.2.2.2.2.2.2 = 0 then ((estafettelaw12_answers.f k).bind fun t180 => (if t180 = true then ((estafetteref08_Good.f k bt163.1 bt163.2.1 bt163.2.2.1 bt163.2.2.2.1 bt163.2.2.2.2.1 bt163.2.2.2.2.2.1 bt163.2.2.2.2.2.2.1 bt163.2.2.2.2.2.2.2.1 bt163.2.2.2.2.2.2.2.2.1).bind fun t181 => (if t181 = true then ((estafetteref08_Bytes.f k bt163.1 bt163.2.1 bt163.2.2.1 bt163.2.2.2.1 bt163.2.2.2.2.1 bt163.2.2.2.2.2.1 bt163.2.2.2.2.2.2.1 bt163.2.2.2.2.2.2.2.1 bt163.2.2.2.2.2.2.2.2.1).bind fun t182 => (some ((strOfNums t182).toList == (strOfNums l0).toList))) else (some false))) else (some false))) else ((estafettelaw12_answers.f k).bind fun t185 => (if t185 = true then (if bt163.2.2.2.2.2.2.2.2.2 = 2 then ((estafetteref08_SameMessages.f k bt163.1 bt163.2.1 bt163.2.2.1 bt163.2.2.2.1 bt163.2.2.2.2.1 bt163.2.2.2.2.2.1 bt163.2.2.2.2.2.2.1 bt163.2.2.2.2.2.2.2.1 bt163.2.2.2.2.2.2.2.2.1 0 0 0 0 0 (⟨#[]⟩ : ByteArray) ([] : List ByteArray) ([] : List Int) ([] : List ByteArray)).bind fun t186 => (some t186)) else (some false)) else (some false))))) true := fun hd =>
    Ev.bind hd (ev_neg (by decide) (Ev.bind answers_ev (ev_pos rfl (ev_pos rfl (Ev.bind same_no (ev_now rfl))))))
  have hB := all_oct hw
  by_cases hbad : (decS l0).s.2 = true ∨ (decS l0).q ≠ 2 ∨ (decS l0).s.1 ≠ []
  · exact no (dec_ev_bad l0 hB hbad)
  have hs : (decS l0).s.2 = false := by
    cases e : (decS l0).s.2 with
    | true => exact absurd (.inl e) hbad
    | false => rfl
  have hq : (decS l0).q = 2 := by
    by_cases e : (decS l0).q = 2
    · exact e
    · exact absurd (.inr (.inl e)) hbad
  have hr : (decS l0).s.1 = [] := by
    by_cases e : (decS l0).s.1 = []
    · exact e
    · exact absurd (.inr (.inr e)) hbad
  have hE := dec_enc l0 hw hs hq hr
  generalize hm : (decS l0).m = m at hE
  obtain ⟨a0, a1, a2, a3, a4, a5, l6, l7, l8⟩ := m
  dsimp only at hE
  have hn := enc_len a0 a1 a2 a3 a4 a5 l6 l7 l8
  rw [hE] at hn
  have h8 := sizeL_sum l8
  have hge := env_good_ev a0 a1 a2 a3 a4 a5 l6 l7 l8 (by omega) (fun s hs => by have := sumS_mem hs; omega) (by omega)
  have hgr := ref_good_ev a0 a1 a2 a3 a4 a5 l6 l7 l8 (by omega) (fun s hs => by have := sumS_mem hs; omega) (by omega)
  cases hg : goodM a0 a1 a2 a3 a4 a5 l6 l7 l8 with
  | false =>
    rw [hg] at hge
    refine no ?_
    simp only [Hand.bin_Decode.f, hm]
    exact ev_pos hB (ev_neg hbad (Ev.bind hge (ev_neg (by decide) (ev_now rfl))))
  | true =>
    rw [hg] at hge hgr
    have hd : Ev (fun k => Hand.bin_Decode.f k l0) (a0, a1, a2, a3, a4, a5, l6, l7, l8, 0) := by
      simp only [Hand.bin_Decode.f, hm]
      exact ev_pos hB (ev_neg hbad (Ev.bind hge (ev_pos rfl (ev_now rfl))))
    have hby := bytes_ev a0 a1 a2 a3 a4 a5 l6 l7 l8 (by omega) hg
    rw [hE] at hby
    refine Ev.bind hd (ev_pos rfl (Ev.bind answers_ev (ev_pos rfl (Ev.bind hgr (ev_pos rfl (Ev.bind hby (ev_now ?_)))))))
    simp
end Go.Proofs.YtljhfaneepehcaaDoor.Addr
