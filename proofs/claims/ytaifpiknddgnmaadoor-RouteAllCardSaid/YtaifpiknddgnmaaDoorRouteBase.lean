/- What route.Hop and the document's Hop compute, and RouteHops, for every input. -/
import Derived.Test.YtaifpiknddgnmaaDoorPCx
import Derived.Test.YtaifpiknddgnmaaDoorAddrRefS
namespace Go.Proofs.YtaifpiknddgnmaaDoor.Addr
open Go.RowKit  Go.Proofs.YtaifpiknddgnmaaDoor.PC Go.Proofs.YtaifpiknddgnmaaDoor.PB Go.Proofs.YtaifpiknddgnmaaDoorW.PrintWords Go.Proofs.YtaifpiknddgnmaaDoorW.PrintLast Go.Proofs.YtaifpiknddgnmaaDoorW.PrintMore Go.Proofs.YtaifpiknddgnmaaDoor.Hand
set_option linter.unusedVariables false
abbrev SHop := Go.Proofs.YtaifpiknddgnmaaDoor.PB.S32
abbrev SAli := Go.Proofs.YtaifpiknddgnmaaDoor.PB.S91
abbrev SBan := Go.Proofs.YtaifpiknddgnmaaDoor.PB.S93

theorem Ev_succ {α : Type} {g : Nat → Option α} {r : α} (h : Ev (fun k => g (k + 1)) r) : Ev g r := Ev.step (f := fun k => g (k + 1)) (fun _ => rfl) h
theorem str_iff (a b : ByteArray) : a.toList = b.toList ↔ a = b := by
  rw [Lib.toList_data, Lib.toList_data]
  exact ⟨fun h => ByteArray.ext (Array.toList_inj.1 h), fun h => by rw [h]⟩
theorem lit_iff (a : ByteArray) (l : List UInt8) : a.toList = l ↔ a = mk l := by
  rw [Lib.toList_data]
  exact ⟨fun h => by rw [← h, mk_list], fun h => by rw [h, list_mk]⟩

/-! ## Hop -/
def hopL (l : List SHop) (s : ByteArray) : ByteArray × Bool := match splitL s.data.toList with
  | some (_, b) => hopTo l (mk (lowerL b))
  | none => (⟨#[]⟩, false)
theorem hop_eq (l0 : List SAli) (l1 : List SHop) (l2 : List SBan) (n : Int) (s : ByteArray) (hl : l1.length < 1000000000001) (hs : s.size < 4611686018427387904) : Hand.route_Hop.f l0 l1 l2 n s = some (hopL l1 s) := by
  unfold Hand.route_Hop.f hopL
  rw [if_pos hl]
  have h := split_eq s.data.toList (by rw [size_list]; exact hs)
  rw [mk_list] at h
  rw [h]
  unfold splitR
  cases e : splitL s.data.toList with
  | none => rfl
  | some q =>
    obtain ⟨a, b⟩ := q
    obtain ⟨_, h2⟩ := split_len e
    show (if (mk b).size < 1000000000000 then some (hopTo l1 (mk (lowerL (mk b).data.toList))) else none) = _
    rw [if_pos (by rw [mk_size]; omega), list_mk]
def starAt (l : List SHop) (i : Nat) : ByteArray × Bool := match hopAt ⟨#[42]⟩ (l.drop i) with
  | some j => ((rd_T32 l ((i + j : Nat) : Int)).f1, true)
  | none => (⟨#[]⟩, false)
def domAt (l : List SHop) (d : ByteArray) (i : Nat) : ByteArray × Bool := match hopAt d (l.drop i) with
  | some j => ((rd_T32 l ((i + j : Nat) : Int)).f1, true)
  | none => starAt l 0
theorem starAt_end (l : List SHop) (i : Nat) (h : l.length ≤ i) : starAt l i = (⟨#[]⟩, false) := by
  unfold starAt
  rw [List.drop_eq_nil_of_le h]
  rfl
theorem domAt_end (l : List SHop) (d : ByteArray) (i : Nat) (h : l.length ≤ i) : domAt l d i = starAt l 0 := by
  unfold domAt
  rw [List.drop_eq_nil_of_le h]
  rfl
theorem starAt_step (l : List SHop) (i : Nat) (h : i < l.length) : starAt l i = if l[i].f0 = ⟨#[42]⟩ then ((rd_T32 l (i : Int)).f1, true) else starAt l (i + 1) := by
  unfold starAt
  rw [List.drop_eq_getElem_cons h, hopAt]
  by_cases e : l[i].f0 = ⟨#[42]⟩
  · rw [if_pos e, if_pos e]
    rfl
  · rw [if_neg e, if_neg e]
    cases hopAt ⟨#[42]⟩ (l.drop (i + 1)) with
    | none => rfl
    | some j =>
      show ((rd_T32 l ((i + (j + 1) : Nat) : Int)).f1, true) = ((rd_T32 l ((i + 1 + j : Nat) : Int)).f1, true)
      rw [show i + (j + 1) = i + 1 + j from by omega]
theorem domAt_step (l : List SHop) (d : ByteArray) (i : Nat) (h : i < l.length) : domAt l d i = if l[i].f0 = d then ((rd_T32 l (i : Int)).f1, true) else domAt l d (i + 1) := by
  unfold domAt
  rw [List.drop_eq_getElem_cons h, hopAt]
  by_cases e : l[i].f0 = d
  · rw [if_pos e, if_pos e]
    rfl
  · rw [if_neg e, if_neg e]
    cases hopAt d (l.drop (i + 1)) with
    | none => rfl
    | some j =>
      show ((rd_T32 l ((i + (j + 1) : Nat) : Int)).f1, true) = ((rd_T32 l ((i + 1 + j : Nat) : Int)).f1, true)
      rw [show i + (j + 1) = i + 1 + j from by omega]
theorem hopTo_dom (l : List SHop) (d : ByteArray) : hopTo l d = domAt l d 0 := by
  unfold hopTo domAt starAt
  rw [List.drop_zero]
  cases hopAt d l with
  | some j => simp only [Nat.zero_add]
  | none =>
    cases hopAt ⟨#[42]⟩ l with
    | some j => simp only [Nat.zero_add]
    | none => rfl
theorem refHop_l1 (l0 : List SAli) (l1 : List SHop) (l2 : List SBan) (n : Int) (hl : l1.length < 1000000000001) : ∀ (d i : Nat), l1.length - i = d → i ≤ l1.length → Ev (fun k => estafetteref14_Hop.l1 k (i : Int) l0 l1 l2 n) (starAt l1 i) := by
  intro d
  induction d with
  | zero =>
    intro i hd hi
    rw [starAt_end l1 i (by omega)]
    refine Ev_succ ?_
    simp only [estafetteref14_Hop.l1]
    exact ev_neg (by omega) (ev_now rfl)
  | succ d ih =>
    intro i hd hi
    have hlt : i < l1.length := by omega
    have e2 := w_succ i (by omega)
    have hn := ih (i + 1) (by omega) (by omega)
    rw [starAt_step l1 i hlt]
    refine Ev_succ ?_
    simp only [estafetteref14_Hop.l1]
    refine ev_pos (by omega) (ev_pos (by omega) ?_)
    by_cases e : l1[i].f0 = ⟨#[42]⟩
    · rw [if_pos e]
      exact ev_pos (by rw [lit_iff, rd_hop l1 i hlt, e]; rfl) (ev_now rfl)
    · rw [if_neg e]
      refine ev_neg (by rw [lit_iff, rd_hop l1 i hlt]; exact e) ?_
      rw [e2.out]
      exact hn
theorem refHop_l0 (l0 : List SAli) (l1 : List SHop) (l2 : List SBan) (n : Int) (b : List UInt8) (hb : b.length < 1000000000000) (hl : l1.length < 1000000000001) : ∀ (d i : Nat), l1.length - i = d → i ≤ l1.length → Ev (fun k => estafetteref14_Hop.l0 k (mk b) (i : Int) l0 l1 l2 n) (domAt l1 (mk (lowerL b)) i) := by
  intro d
  have hlow : Hand.ref_Lower.f (mk b) = some (mk (lowerL b)) := by unfold Hand.ref_Lower.f; rw [if_pos (by rw [mk_size]; omega), list_mk]
  induction d with
  | zero =>
    intro i hd hi
    rw [domAt_end l1 _ i (by omega)]
    refine Ev_succ ?_
    simp only [estafetteref14_Hop.l0]
    exact ev_neg (by omega) (refHop_l1 l0 l1 l2 n hl _ 0 rfl (Nat.zero_le _))
  | succ d ih =>
    intro i hd hi
    have hlt : i < l1.length := by omega
    have e2 := w_succ i (by omega)
    have hn := ih (i + 1) (by omega) (by omega)
    rw [domAt_step l1 _ i hlt]
    refine Ev_succ ?_
    simp only [estafetteref14_Hop.l0, hlow]
    refine ev_pos (by omega) (ev_pos (by omega) (ev_some ?_))
    by_cases e : l1[i].f0 = mk (lowerL b)
    · rw [if_pos e]
      exact ev_pos (by rw [str_iff, rd_hop l1 i hlt, e]) (ev_now rfl)
    · rw [if_neg e]
      refine ev_neg (by rw [str_iff, rd_hop l1 i hlt]; exact e) ?_
      rw [e2.out]
      exact hn
theorem refHop_ev (l0 : List SAli) (l1 : List SHop) (l2 : List SBan) (n : Int) (s : ByteArray) (hl : l1.length < 1000000000001) (hs : s.size < 4611686018427387904) : Ev (fun k => estafetteref14_Hop.f k l0 l1 l2 n s) (hopL l1 s) := by
  unfold estafetteref14_Hop.f hopL
  have h := refSplit_ev s.data.toList (by rw [size_list]; exact hs)
  rw [mk_list] at h
  refine Ev.bind h ?_
  unfold splitR
  cases e : splitL s.data.toList with
  | none => exact ev_neg (by simp) (ev_now rfl)
  | some q =>
    obtain ⟨a, b⟩ := q
    obtain ⟨_, h2⟩ := split_len e
    refine ev_pos rfl ?_
    show Ev _ (hopTo l1 (mk (lowerL b)))
    rw [hopTo_dom]
    exact refHop_l0 l0 l1 l2 n b (by omega) hl _ 0 rfl (Nat.zero_le _)

/-! ## the statements -/
theorem answers_eq : estafettelaw17_answers.f = some true := by
  unfold estafettelaw17_answers.f
  rw [hop_eq _ _ _ _ _ (by decide) (by decide)]
  decide +kernel
theorem ev_answers {α : Type} {f : Nat → Bool → Option α} {r : α} (k : Ev (fun n => f n true) r) : Ev (fun n => (estafettelaw17_answers.f).bind (f n)) r := by
  rw [answers_eq]
  exact ev_some k
theorem RouteHops (l0 : List SAli) (l1 : List SHop) (l2 : List SBan) (n : Int) (s : ByteArray) (hs : s.size ≤ 140737488351232) : ∃ k, estafettelaw17_RouteHops.f k l0 l1 l2 n s = some true := by
  refine Ev.rounds ?_
  unfold estafettelaw17_RouteHops.f
  have hj : ∀ b, (b = false → l1.length < 1000000000001) → Ev (fun k => estafettelaw17_RouteHops.j0 k s b l0 l1 l2 n) true := by
    intro b hb
    refine Ev_succ ?_
    simp only [estafettelaw17_RouteHops.j0]
    cases b with
    | true => exact ev_pos rfl (ev_answers (ev_now rfl))
    | false =>
      refine ev_neg (by simp) ?_
      rw [hop_eq l0 l1 l2 n s (hb rfl) (by omega)]
      refine ev_some (Ev.bind (refHop_ev l0 l1 l2 n s (hb rfl) (by omega)) (ev_answers (ev_pos rfl (ev_pos rfl (ev_now ?_)))))
      cases (hopL l1 s).2 <;> rfl
  by_cases h : (l1.length : Int) > 100
  · exact ev_pos h (hj true (by simp))
  · exact ev_neg h (hj _ (fun _ => by omega))
end Go.Proofs.YtaifpiknddgnmaaDoor.Addr
