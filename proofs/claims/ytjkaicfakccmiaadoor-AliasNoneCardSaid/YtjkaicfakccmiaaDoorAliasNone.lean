/- AliasNone, for every input. -/
import Derived.Test.YtjkaicfakccmiaaDoorAliasBase
namespace Go.Proofs.YtjkaicfakccmiaaDoor.Addr
open Go.RowKit Go.Proofs.YtjkaicfakccmiaaDoor.PC Go.Proofs.YtjkaicfakccmiaaDoor.PB Go.Proofs.YtjkaicfakccmiaaDoorW.PrintWords Go.Proofs.YtjkaicfakccmiaaDoorW.PrintLast Go.Proofs.YtjkaicfakccmiaaDoorW.PrintMore Go.Proofs.YtjkaicfakccmiaaDoor.Hand
set_option linter.unusedVariables false
theorem none_loop (x0 : List ByteArray) (hx : x0.length ≤ 60) (h : ∀ s ∈ x0, s.size ≤ 140737488351232) : ∀ (d i : Nat) (G : List ByteArray), x0.length - i = d → i ≤ x0.length → G.length ≤ 50 → (x0.drop i).foldl addO G = x0.foldl addO [] → Ev (fun k => estafettelaw16_AliasNone.l0 k x0 ((x0.foldl addO []).take 50) (G.length : Int) (i : Int)) true := by
  intro d
  induction d with
  | zero =>
    intro i G hd hi hG hF
    obtain rfl : i = x0.length := by omega
    rw [List.drop_length, List.foldl_nil] at hF
    subst hF
    refine Ev_succ ?_
    simp only [estafettelaw16_AliasNone.l0]
    refine ev_neg (by omega) (Ev_succ ?_)
    simp only [estafettelaw16_AliasNone.j1]
    refine ev_neg (by decide) (Ev.bind answers_ev (ev_pos rfl (ev_now ?_)))
    rw [List.take_of_length_le hG]
    simp
  | succ d ih =>
    intro i G hd hi hG hF
    have hlt : i < x0.length := by omega
    refine Ev_succ ?_
    simp only [estafettelaw16_AliasNone.l0]
    refine ev_pos (by omega) (Ev_succ ?_)
    simp only [estafettelaw16_AliasNone.j1]
    obtain ⟨t, ht⟩ := addAll_pre (x0.drop i) G
    rw [hF] at ht
    by_cases h50 : G.length < 50
    · refine ev_pos (by simp; omega) (ev_pos (by omega) (ev_pos (by omega) ?_))
      rw [rd_at x0 i hlt]
      have hc := refCanon_ev x0[i].data.toList (by rw [size_list]; have := h _ (List.getElem_mem hlt); omega)
      rw [mk_list] at hc
      refine Ev.bind hc ?_
      have key : Ev (fun k => estafettelaw16_AliasNone.j2 k x0 ((x0.foldl addO []).take 50) (G.length : Int) (i : Int) (canB x0[i])) true := by
        refine Ev_succ ?_
        simp only [estafettelaw16_AliasNone.j2]
        have hl : G.length ≤ ((x0.foldl addO []).take 50).length := by rw [ht, List.length_take, List.length_append]; omega
        have hT : ((x0.foldl addO []).take 50).take G.length = G := by
          rw [ht, List.take_take, Nat.min_eq_left (by omega), List.take_left]
        refine ev_pos (by omega) (ev_pos (by omega) ?_)
        rw [Int.toNat_natCast, hT]
        refine Ev.bind (has_ev (canB x0[i]) G (by omega)) ?_
        rw [List.drop_eq_getElem_cons hlt, List.foldl_cons] at hF
        cases hh : hasS (canB x0[i]) G with
        | true =>
          refine ev_pos (by trivial) ?_
          rw [(w_succ i (by omega)).out]
          refine ih (i + 1) G (by omega) (by omega) hG ?_
          have : addO G x0[i] = G := by unfold addO; rw [if_pos hh]
          rw [this] at hF
          exact hF
        | false =>
          refine ev_neg (by decide) ?_
          have hA : addO G x0[i] = G ++ [canB x0[i]] := by unfold addO; rw [if_neg (by rw [hh]; decide)]
          rw [hA] at hF
          obtain ⟨t', ht'⟩ := addAll_pre (x0.drop (i + 1)) (G ++ [canB x0[i]])
          rw [hF] at ht'
          have hl2 : G.length < ((x0.foldl addO []).take 50).length := by rw [ht', List.length_take, List.length_append, List.length_append, List.length_singleton]; omega
          refine ev_neg (by omega) (ev_pos (by omega) ?_)
          have hg : ((x0.foldl addO []).take 50)[G.length]'hl2 = canB x0[i] := by
            rw [List.getElem_take]
            simp only [ht', List.append_assoc]
            simp
          rw [rd_at _ _ hl2, hg]
          refine ev_pos rfl ?_
          rw [(w_succ i (by omega)).out, (w_succ G.length (by omega)).out]
          have := ih (i + 1) (G ++ [canB x0[i]]) (by omega) (by omega) (by rw [List.length_append, List.length_singleton]; omega) hF
          rw [List.length_append, List.length_singleton] at this
          exact this
      unfold canonR
      unfold canB at key
      cases e : canonL x0[i].data.toList with
      | none =>
        rw [e] at key
        exact ev_neg (by decide) key
      | some c =>
        rw [e] at key
        exact ev_pos rfl key
    · refine ev_neg (by simp; omega) (Ev.bind answers_ev (ev_pos rfl (ev_now ?_)))
      have : ((x0.foldl addO []).take 50).length = G.length := by rw [ht, List.length_take, List.length_append]; omega
      rw [this]
      simp
theorem AliasNone (x0 : List ByteArray) (x1 : S26) (h : ∀ s ∈ x0, s.size ≤ 140737488351232) : ∃ k, estafettelaw16_AliasNone.f k x0 x1.f0 x1.f1 x1.f2 x1.f3 = some true := by
  refine Ev.rounds ?_
  simp only [estafettelaw16_AliasNone.f]
  by_cases hx : x0.length ≤ 60
  · refine ev_neg (by omega) (Ev.bind (expand_none x0 hx h _ _ _) ?_)
    exact none_loop x0 hx h x0.length 0 [] rfl (Nat.zero_le _) (by simp) rfl
  · exact ev_pos (by omega) (Ev.bind answers_ev (ev_now rfl))
end Go.Proofs.YtjkaicfakccmiaaDoor.Addr
