/- RouteOther, for every input. -/
import Derived.Test.YtaifpiknddgnmaaDoorRouteBase
import Derived.Test.YtaifpiknddgnmaaDoorPDx
namespace Go.Proofs.YtaifpiknddgnmaaDoor.Addr
open Go.RowKit Go.Proofs.YtaifpiknddgnmaaDoor.PD Go.Proofs.YtaifpiknddgnmaaDoor.PC Go.Proofs.YtaifpiknddgnmaaDoor.PB Go.Proofs.YtaifpiknddgnmaaDoorW.PrintWords Go.Proofs.YtaifpiknddgnmaaDoorW.PrintLast Go.Proofs.YtaifpiknddgnmaaDoorW.PrintMore Go.Proofs.YtaifpiknddgnmaaDoor.Hand
set_option linter.unusedVariables false

/-! ## RouteOther -/
def plainHops (l : List SHop) : List SHop := l.filter fun h => !decide (h.f0 = ⟨#[42]⟩)
theorem plain_len (l : List SHop) : (plainHops l).length ≤ l.length := List.length_filter_le _ _
theorem plain_star (l : List SHop) : hopAt ⟨#[42]⟩ (plainHops l) = none := by
  induction l with
  | nil => rfl
  | cons x l ih =>
    unfold plainHops
    rw [List.filter_cons]
    by_cases e : x.f0 = ⟨#[42]⟩
    · rw [if_neg (by simp [e])]
      exact ih
    · rw [if_pos (by simp [e]), hopAt, if_neg e]
      show (hopAt ⟨#[42]⟩ (plainHops l)).map (· + 1) = none
      rw [ih]
      rfl
theorem lower_star (b : List UInt8) (hb : domainL b = true) : mk (lowerL b) ≠ (⟨#[42]⟩ : ByteArray) := by
  intro h
  have h1 : lowerL b = [42] := mk_inj (b := [42]) h
  have h2 := domain_lower b
  rw [h1, hb] at h2
  exact absurd h2 (by decide)
theorem hopTo_cons (l : List SHop) (d host : ByteArray) (hd : d ≠ ⟨#[42]⟩) (hs : hopAt ⟨#[42]⟩ l = none) : hopTo (⟨⟨#[42]⟩, host⟩ :: l) d = if (hopTo l d).2 = true then hopTo l d else (host, true) := by
  unfold hopTo
  rw [hopAt, if_neg (fun h => hd h.symm), hs]
  cases hopAt d l with
  | none =>
    rw [hopAt, if_pos rfl]
    rfl
  | some i =>
    show ((rd_T32 (⟨⟨#[42]⟩, host⟩ :: l) ((i + 1 : Nat) : Int)).f1, true) = ((rd_T32 l (i : Int)).f1, true)
    unfold rd_T32
    rw [Int.toNat_natCast, Int.toNat_natCast]
    rfl
theorem hopTo_none (l : List SHop) (d : ByteArray) (h : (hopTo l d).2 = false) : hopTo l d = (⟨#[]⟩, false) := by
  unfold hopTo at h ⊢
  cases e : hopAt d l with
  | some i => rw [e] at h; cases h
  | none =>
    rw [e] at h
    cases e2 : hopAt ⟨#[42]⟩ l with
    | some i => rw [e2] at h; cases h
    | none => rfl
theorem other_loop (l0 : List SAli) (l1 : List SHop) (l2 : List SBan) (n n2 : Int) (s host : ByteArray) (hs : s.size ≤ 300) (hl : l1.length ≤ 50) : ∀ (d i : Nat), l1.length - i = d → i ≤ l1.length →
    Ev (fun k => estafettelaw17_RouteOther.l0 k s host (i : Int) l0 l1 l2 n (plainHops (l1.take i)) n2) true := by
  intro d
  induction d with
  | zero =>
    intro i hd hi
    obtain rfl : i = l1.length := by omega
    rw [List.take_length]
    have hpl := plain_len l1
    have hb : Ev (fun k : Nat => (Hand.route_Hop.f ([] : List SAli) (plainHops l1) ([] : List SBan) n2 s)) (hopL (plainHops l1) s) := by
      rw [hop_eq _ _ _ _ _ (by omega) (by omega)]
      exact Ev.now _
    have hc : Ev (fun k : Nat => (Hand.route_Hop.f ([] : List SAli) (([⟨⟨#[42]⟩, host⟩] : List SHop) ++ plainHops l1) ([] : List SBan) n2 s)) (hopL (([⟨⟨#[42]⟩, host⟩] : List SHop) ++ plainHops l1) s) := by
      rw [hop_eq _ _ _ _ _ (by rw [List.length_append, List.length_singleton]; omega) (by omega)]
      exact Ev.now _
    refine Ev_succ ?_
    simp only [estafettelaw17_RouteOther.l0]
    refine ev_neg (by omega) (Ev.bind hb (ev_some (ev_pos (by rw [List.length_singleton]; omega) (Ev.bind hc ?_))))
    cases e : splitL s.data.toList with
    | none =>
      have e1 : ∀ l, hopL l s = (⟨#[]⟩, false) := by
        intro l
        unfold hopL
        rw [e]
      rw [e1, e1]
      exact ev_neg (by simp) (ev_answers (ev_pos rfl (ev_neg (by simp) (ev_pos (by rw [lit_iff]; rfl) (ev_now rfl)))))
    | some q =>
      obtain ⟨a, b⟩ := q
      obtain ⟨_, _, h2⟩ := split_some e
      have h3 := hopTo_cons (plainHops l1) (mk (lowerL b)) host (lower_star b h2) (plain_star l1)
      have e1 : ∀ l, hopL l s = hopTo l (mk (lowerL b)) := by
        intro l
        unfold hopL
        rw [e]
      rw [e1, e1, List.singleton_append, h3]
      cases h4 : (hopTo (plainHops l1) (mk (lowerL b))).2 with
      | true =>
        refine ev_pos rfl (ev_answers (ev_pos rfl ?_))
        rw [if_pos rfl, h4]
        exact ev_pos rfl (ev_now (by simp))
      | false =>
        refine ev_neg (by simp) (ev_answers (ev_pos rfl ?_))
        rw [if_neg (show ¬ (false = true) by simp)]
        exact ev_pos rfl (ev_now (by simp))
  | succ d ih =>
    intro i hd hi
    have hlt : i < l1.length := by omega
    have e2 := w_succ i (by omega)
    have hn := ih (i + 1) (by omega) (by omega)
    have hpl := plain_len (l1.take i)
    rw [List.length_take] at hpl
    have ht : plainHops (l1.take (i + 1)) = if l1[i].f0 = ⟨#[42]⟩ then plainHops (l1.take i) else plainHops (l1.take i) ++ [l1[i]] := by
      unfold plainHops
      rw [List.take_succ_eq_append_getElem hlt, List.filter_append, List.filter_cons]
      by_cases e : l1[i].f0 = ⟨#[42]⟩
      · rw [if_pos e, if_neg (by simp [e]), List.filter_nil, List.append_nil]
      · rw [if_neg e, if_pos (by simp [e]), List.filter_nil]
    rw [ht] at hn
    refine Ev_succ ?_
    simp only [estafettelaw17_RouteOther.l0]
    refine ev_pos (by omega) (ev_pos (by omega) ?_)
    rw [e2.out, rd_hop l1 i hlt]
    by_cases e : l1[i].f0 = ⟨#[42]⟩
    · rw [if_pos e] at hn
      exact ev_pos (by rw [lit_iff, e]; rfl) hn
    · rw [if_neg e] at hn
      exact ev_neg (by rw [lit_iff]; exact e) (ev_pos (by omega) hn)
theorem RouteOther (l0 : List SAli) (l1 : List SHop) (l2 : List SBan) (n : Int) (s host : ByteArray) : ∃ k, estafettelaw17_RouteOther.f k l0 l1 l2 n s host = some true := by
  refine Ev.rounds ?_
  unfold estafettelaw17_RouteOther.f
  have hj : ∀ b, (b = false → l1.length ≤ 50 ∧ s.size ≤ 300) → Ev (fun k => estafettelaw17_RouteOther.j0 k s host b l0 l1 l2 n) true := by
    intro b hb
    refine Ev_succ ?_
    simp only [estafettelaw17_RouteOther.j0]
    cases b with
    | true => exact ev_pos rfl (ev_answers (ev_now rfl))
    | false =>
      obtain ⟨h1, h2⟩ := hb rfl
      exact ev_neg (by simp) (other_loop l0 l1 l2 n 0 s host h2 h1 _ 0 rfl (Nat.zero_le _))
  by_cases h : (l1.length : Int) > 50
  · exact ev_pos h (hj true (by simp))
  · refine ev_neg h ?_
    by_cases h2 : (s.size : Int) > 300
    · exact ev_pos h2 (hj true (by simp))
    · exact ev_neg h2 (hj _ (fun _ => ⟨by omega, by omega⟩))
end Go.Proofs.YtaifpiknddgnmaaDoor.Addr
