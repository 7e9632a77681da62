/- The plain statements of chapter 1: names, paths, twice. -/
import Derived.Test.YtikfdngidbppbaaDoorAddrRef
namespace Go.Proofs.YtikfdngidbppbaaDoor.Addr
open Go.RowKit Go.Proofs.YtikfdngidbppbaaDoor.PB Go.Proofs.YtikfdngidbppbaaDoorW.PrintWords Go.Proofs.YtikfdngidbppbaaDoorW.PrintLast Go.Proofs.YtikfdngidbppbaaDoorW.PrintMore
set_option linter.unusedVariables false

theorem is_mk (s : ByteArray) : ∃ l, s = mk l := ⟨s.data.toList, (mk_list s).symm⟩
def pathR (l : List UInt8) : ByteArray × Bool := match pathL l with
  | some c => (mk c, true)
  | none => (mk [], false)
def routeP (t : List UInt8) : ByteArray × Bool := match routeL t with
  | some r => canonR r
  | none => (mk [], false)
theorem pathR_in (l : List UInt8) (h1 : l ≠ [60, 62]) (h2 : ¬ l.length < 2) (h3 : l.head? = some 60) (h4 : l.getLast? = some 62) : pathR l = routeP ((l.drop 1).dropLast) := by
  unfold pathR routeP pathL
  rw [if_neg h1, if_neg (by rw [h3, h4]; simp; omega)]
  cases routeL ((l.drop 1).dropLast) with
  | none => rfl
  | some r => rfl
theorem pathR_out (l : List UInt8) (h1 : l ≠ [60, 62]) (h : l.length < 2 ∨ l.head? ≠ some 60 ∨ l.getLast? ≠ some 62) : pathR l = (mk [], false) := by
  unfold pathR pathL
  rw [if_neg h1, if_pos h]
theorem inner_mk (l : List UInt8) (h : ¬ l.length < 2) : (mk l).extract 1 (l.length - 1) = mk ((l.drop 1).dropLast) := by
  rw [extract_mk, List.dropLast_eq_take, List.length_drop]
theorem route_len {t r : List UInt8} (h : routeL t = some r) : r.length ≤ t.length := by
  unfold routeL at h
  split at h
  · split at h
    · next list rest hc =>
      split at h
      · injection h with h
        subst h
        have := congrArg List.length (cut_some hc).1
        rw [List.length_append, List.length_cons] at this
        omega
      · cases h
    · cases h
  · injection h with h
    rw [h]
    exact Nat.le_refl _
theorem inner_len (l : List UInt8) : ((l.drop 1).dropLast).length ≤ l.length := by simp; omega
theorem pathj (l : List UInt8) (hs : l.length < 1000000000000) (h2 : ¬ l.length < 2) : Ev (fun k => addr_Path.j0 k (mk l) false) (routeP ((l.drop 1).dropLast)) := by
  have e3 := w_pred l.length (by omega) (by omega)
  have hil := inner_len l
  have hr : Hand.addr_route.f (mk ((l.drop 1).dropLast)) = some (if ((l.drop 1).dropLast).head? = some 64 then
      match cutB 58 ((l.drop 1).dropLast) with
      | some (list, rest) => (mk rest, (parts 44 list).all hopOk)
      | none => (mk [], false)
    else (mk ((l.drop 1).dropLast), true)) := by
    unfold Hand.addr_route.f
    rw [if_pos (by rw [mk_size]; omega), list_mk]
    rfl
  refine Ev.step (f := fun k => (Hand.addr_route.f (mk ((l.drop 1).dropLast))).bind fun bt110 => (if bt110.2 = true then ((addr_Canon.f bt110.1).bind fun bt112 => (some (bt112.1, bt112.2))) else (some ((⟨#[]⟩ : ByteArray), false)))) (fun k => ?_) ?_
  · simp only [addr_Path.j0]
    rw [if_neg (by simp), mk_size, e3.out, if_pos (by omega), if_pos (by omega), Int.toNat_natCast, inner_mk l h2]
  · generalize (l.drop 1).dropLast = t at hr hil ⊢
    rw [hr]
    refine ev_some ?_
    unfold routeP routeL
    by_cases hh : t.head? = some 64
    · rw [if_pos hh, if_pos hh]
      cases e : cutB 58 t with
      | none => exact ev_neg (by simp) (ev_now rfl)
      | some q =>
        obtain ⟨list, rest⟩ := q
        have hlen := congrArg List.length (cut_some e).1
        rw [List.length_append, List.length_cons] at hlen
        dsimp only
        by_cases ha : (parts 44 list).all hopOk = true
        · refine ev_pos ha ?_
          rw [canon_eq rest (by omega), if_pos ha]
          exact ev_some (ev_now rfl)
        · refine ev_neg ha ?_
          rw [if_neg ha]
          exact ev_now rfl
    · rw [if_neg hh, if_neg hh]
      refine ev_pos rfl ?_
      rw [canon_eq t (by omega)]
      exact ev_some (ev_now rfl)
theorem pathj_true (l : List UInt8) : Ev (fun k => addr_Path.j0 k (mk l) true) (mk [], false) :=
  Ev.step (f := fun _ => some (mk [], false)) (fun k => by simp only [addr_Path.j0]; rw [if_pos trivial]; rfl) (ev_now rfl)
theorem path_ev (l : List UInt8) (hs : l.length < 1000000000000) : Ev (fun k => addr_Path.f k (mk l)) (pathR l) := by
  unfold addr_Path.f
  by_cases h1 : l = [60, 62]
  · subst h1
    exact ev_pos (by rw [toList_mk]) (ev_now rfl)
  refine ev_neg (by rw [toList_mk]; exact h1) ?_
  by_cases h2 : l.length < 2
  · rw [pathR_out l h1 (.inl h2)]
    exact ev_pos (by rw [mk_size]; omega) (pathj_true l)
  refine ev_neg (by rw [mk_size]; omega) (ev_pos (by rw [mk_size]; omega) ?_)
  have e0 : l.head? = some (l[0]'(by omega)) := by rw [List.head?_eq_getElem?, List.getElem?_eq_getElem (by omega)]
  have e1 : l.getLast? = some (l[l.length - 1]'(by omega)) := by rw [List.getLast?_eq_getElem?, List.getElem?_eq_getElem (by omega)]
  have e3 := w_pred l.length (by omega) (by omega)
  have b0 := bt_mk l 0 (by omega)
  have b1 := Aside0.mk (bt_mk l (l.length - 1) (by omega))
  by_cases ha : l[0]'(by omega) = 60
  · refine ev_pos ((by rw [show (0 : Int) = ((0 : Nat) : Int) from rfl, b0, ha]; rfl)) ?_
    rw [mk_size, e3.out]
    refine ev_pos (by omega) (ev_pos (by omega) ?_)
    rw [b1.out]
    by_cases hb : l[l.length - 1]'(by omega) = 62
    · rw [pathR_in l h1 h2 (by rw [e0, ha]) (by rw [e1, hb]), hb]
      exact pathj l hs h2
    · rw [pathR_out l h1 (.inr (.inr (by rw [e1]; intro h; injection h with h; exact hb h)))]
      have : (((l[l.length - 1]'(by omega)).toNat : Int) != 62) = true := by
        rw [bne_iff_ne]
        exact fun h => hb ((nat_eq _ 62).1 h)
      rw [this]
      exact pathj_true l
  · rw [pathR_out l h1 (.inr (.inl (by rw [e0]; intro h; injection h with h; exact ha h)))]
    exact ev_neg (fun h => ha ((nat_eq _ 60).1 (b0.symm.trans h))) (pathj_true l)

/-! ## the document's Path -/
theorem hops_loop (x : List UInt8) (n : Nat) (hn : n < x.length) (hx : x.length < 1000000000000) (L : List (List UInt8)) (hL : L.length < 1000000000001) (hp : ∀ p ∈ L, p.length < 1000000000000) : ∀ (d i : Nat), L.length - i = d → i ≤ L.length →
    Ev (fun k => estafetteref01_Path.l0 k (mk x) (n : Int) (L.map mk) (i : Int)) (if (L.drop i).all hopOk = true then canonR (x.drop (n + 1)) else (mk [], false)) := by
  intro d
  induction d with
  | zero =>
    intro i hd hi
    rw [List.drop_eq_nil_of_le (by omega), if_pos (by rfl)]
    have e3 := w_succ n (by omega)
    have x2 : (mk x).extract (n + 1) (mk x).size = mk (x.drop (n + 1)) := by
      rw [extract_mk, List.take_of_length_le]
      rw [mk_size, List.length_drop]
      omega
    refine Ev.step (f := fun k => (estafetteref01_Canon.f k (mk (x.drop (n + 1)))).bind fun bt171 => (some (bt171.1, bt171.2))) (fun k => ?_) (Ev.bind (refCanon_ev _ (by rw [List.length_drop]; omega)) (ev_now rfl))
    simp only [estafetteref01_Path.l0]
    rw [if_neg (by rw [List.length_map]; omega), e3.out, if_pos (by omega), if_pos (by rw [mk_size]; omega), Int.toNat_natCast, x2]
  | succ d ih =>
    intro i hd hi
    have hl : i < L.length := by omega
    have hps := hp L[i] (List.getElem_mem hl)
    have e2 := w_succ i (by omega)
    have hnext := ih (i + 1) (by omega) (by omega)
    rw [List.drop_eq_getElem_cons hl, List.all_cons]
    generalize hq : L[i] = p at hps ⊢
    have hr : Aside0 (rdOf ByteArray.empty (L.map mk) (i : Int) = mk p) := ⟨by rw [rd_mk L i hl, hq]⟩
    by_cases h0 : p = []
    · refine Ev.step (f := fun _ => some (mk [], false)) (fun k => ?_) (ev_now ?_)
      · simp only [estafetteref01_Path.l0]
        rw [if_pos (by rw [List.length_map]; omega), if_pos (by omega), hr.out, if_pos (by rw [h0]; rfl)]
        rfl
      · rw [h0, if_neg (by simp [hopOk])]
    have hpl : 0 < p.length := List.length_pos_iff.2 h0
    have e0 : p.head? = some p[0] := by rw [List.head?_eq_getElem?, List.getElem?_eq_getElem hpl]
    have b0 := bt_mk p 0 hpl
    by_cases ha : p[0] = 64
    · have x2 : (mk p).extract 1 (mk p).size = mk (p.drop 1) := by
        rw [extract_mk, List.take_of_length_le]
        rw [mk_size, List.length_drop]
        exact Nat.le_refl _
      refine Ev.step (f := fun k => (estafetteref01_Domain.f k (mk (p.drop 1))).bind fun t170 => (if t170 = true then (estafetteref01_Path.l0 k (mk x) (n : Int) (L.map mk) ((i + 1 : Nat) : Int)) else (some ((⟨#[]⟩ : ByteArray), false)))) (fun k => ?_) (Ev.bind (refDomain_ev _ (by rw [List.length_drop]; omega)) ?_)
      · simp only [estafetteref01_Path.l0]
        rw [if_pos (by rw [List.length_map]; omega), if_pos (by omega), hr.out, if_neg (by rw [mk_size]; omega), if_pos (by rw [mk_size]; omega), if_pos (by rw [show (0 : Int) = ((0 : Nat) : Int) from rfl, b0, ha]; rfl), if_pos (by rw [mk_size]; omega), e2.out, x2]
      · have hh : hopOk p = domainL (p.drop 1) := by unfold hopOk; rw [e0, ha]; rfl
        rw [hh]
        cases hb : domainL (p.drop 1) with
        | false => exact ev_neg (by simp) (ev_now (by rw [if_neg (by simp)]; rfl))
        | true =>
          refine ev_pos rfl ?_
          rw [Bool.true_and]
          exact hnext
    · have hb0 : ¬ bt (mk p) 0 = 64 := fun h => ha ((nat_eq _ 64).1 (b0.symm.trans h))
      refine Ev.step (f := fun _ => some (mk [], false)) (fun k => ?_) (ev_now ?_)
      · simp only [estafetteref01_Path.l0]
        rw [if_pos (by rw [List.length_map]; omega), if_pos (by omega), hr.out, if_neg (by rw [mk_size]; omega), if_pos (by rw [mk_size]; omega), if_neg hb0]
        rfl
      · have hh : hopOk p = false := by
          unfold hopOk
          rw [e0]
          simp [ha]
        rw [hh, if_neg (by simp)]
theorem refPathj1 (t : List UInt8) (hs : t.length < 1000000000000) (b : Bool) (hb : b = true ↔ t.head? = some 64) : Ev (fun k => estafetteref01_Path.j1 k (mk t) b) (routeP t) := by
  unfold routeP routeL
  cases b with
  | false =>
    have hn : ¬ t.head? = some 64 := fun h => absurd (hb.2 h) (by simp)
    rw [if_neg hn]
    refine Ev.step (f := fun k => (estafetteref01_Canon.f k (mk t)).bind fun bt173 => (some (bt173.1, bt173.2))) (fun k => ?_) (Ev.bind (refCanon_ev t hs) (ev_now rfl))
    simp only [estafetteref01_Path.j1]
    rw [if_neg (by simp)]
  | true =>
    rw [if_pos (hb.1 rfl)]
    refine Ev.step (f := fun k => (estafetteref01_find.f k (mk t) 58).bind fun t163 => (if t163 < 0 then (some ((⟨#[]⟩ : ByteArray), false)) else (if 0 ≤ t163 then (if t163 ≤ ((mk t).size : Int) then ((estafetteref01_Cut.f k ((mk t).extract 0 (t163 : Int).toNat) 44).bind fun t164 => (estafetteref01_Path.l0 k (mk t) t163 t164 0)) else (none)) else (none)))) (fun k => ?_) (Ev.bind (g := fun k => estafetteref01_find.f k (mk t) 58) (find_ev t 58 (by omega)) ?_)
    · simp only [estafetteref01_Path.j1]
      rw [if_pos trivial]
    unfold findL
    cases e : cutB 58 t with
    | none => exact ev_pos (by show (-1 : Int) < 0; omega) (ev_now rfl)
    | some q =>
      obtain ⟨a, b⟩ := q
      obtain ⟨h1, h2⟩ := cut_some e
      obtain ⟨h3, h4⟩ := take_cut h1
      have hlen := congrArg List.length h1
      rw [List.length_append, List.length_cons] at hlen
      have x1 : (mk t).extract 0 a.length = mk a := by rw [extract_mk, List.drop_zero, Nat.sub_zero, h3]
      dsimp only
      refine ev_neg (by omega) (ev_pos (by omega) (ev_pos (by rw [mk_size]; omega) ?_))
      rw [Int.toNat_natCast, x1]
      refine Ev.bind (g := fun k => estafetteref01_Cut.f k (mk a) 44) (cut_ev a 44 (by omega)) ?_
      have hc := parts_count 44 a
      have hcl := List.count_le_length (a := 44) (l := a)
      have := hops_loop t a.length (by omega) hs (parts 44 a) (by omega) (fun p hp => by have := Hand.parts_len 44 a p hp; omega) _ 0 rfl (Nat.zero_le _)
      rw [List.drop_zero, h4] at this
      have e9 : (if (parts 44 a).all hopOk = true then canonR b else (mk [], false)) = (match (if (parts 44 a).all hopOk = true then some b else none) with
        | some r => canonR r
        | none => (mk [], false)) := by split <;> rfl
      rw [← e9]
      exact this
theorem refPathj0 (l : List UInt8) (hs : l.length < 1000000000000) (h2 : ¬ l.length < 2) : Ev (fun k => estafetteref01_Path.j0 k (mk l) false) (routeP ((l.drop 1).dropLast)) := by
  have e3 := w_pred l.length (by omega) (by omega)
  have hil := inner_len l
  have hx := inner_mk l h2
  generalize (l.drop 1).dropLast = t at hx hil ⊢
  by_cases h0 : t = []
  · refine Ev.step (fun k => ?_) (refPathj1 t (by omega) false (by rw [h0]; simp))
    simp only [estafetteref01_Path.j0]
    rw [if_neg (by simp), mk_size, e3.out, if_pos (by omega), if_pos (by omega), Int.toNat_natCast, hx, if_neg (by rw [mk_size, h0]; simp)]
  · have hpl : 0 < t.length := List.length_pos_iff.2 h0
    have e0 : t.head? = some t[0] := by rw [List.head?_eq_getElem?, List.getElem?_eq_getElem hpl]
    have b0 := bt_mk t 0 hpl
    refine Ev.step (fun k => ?_) (refPathj1 t (by omega) (bt (mk t) 0 == 64) ?_)
    · simp only [estafetteref01_Path.j0]
      rw [if_neg (by simp), mk_size, e3.out, if_pos (by omega), if_pos (by omega), Int.toNat_natCast, hx, if_pos (by rw [mk_size]; omega), if_pos (by rw [mk_size]; omega)]
    · rw [beq_iff_eq, e0, Option.some.injEq]
      rw [show (0 : Int) = ((0 : Nat) : Int) from rfl, b0]
      exact nat_eq t[0] 64
theorem refPathj_true (l : List UInt8) : Ev (fun k => estafetteref01_Path.j0 k (mk l) true) (mk [], false) :=
  Ev.step (f := fun _ => some (mk [], false)) (fun k => by simp only [estafetteref01_Path.j0]; rw [if_pos trivial]; rfl) (ev_now rfl)
theorem refPath_ev (l : List UInt8) (hs : l.length < 1000000000000) : Ev (fun k => estafetteref01_Path.f k (mk l)) (pathR l) := by
  unfold estafetteref01_Path.f
  by_cases h1 : l = [60, 62]
  · subst h1
    exact ev_pos (by rw [toList_mk]) (ev_now rfl)
  refine ev_neg (by rw [toList_mk]; exact h1) ?_
  by_cases h2 : l.length < 2
  · rw [pathR_out l h1 (.inl h2)]
    exact ev_pos (by rw [mk_size]; omega) (refPathj_true l)
  refine ev_neg (by rw [mk_size]; omega) (ev_pos (by rw [mk_size]; omega) ?_)
  have e0 : l.head? = some (l[0]'(by omega)) := by rw [List.head?_eq_getElem?, List.getElem?_eq_getElem (by omega)]
  have e1 : l.getLast? = some (l[l.length - 1]'(by omega)) := by rw [List.getLast?_eq_getElem?, List.getElem?_eq_getElem (by omega)]
  have e3 := w_pred l.length (by omega) (by omega)
  have b0 := bt_mk l 0 (by omega)
  have b1 := Aside0.mk (bt_mk l (l.length - 1) (by omega))
  by_cases ha : l[0]'(by omega) = 60
  · refine ev_pos ((by rw [show (0 : Int) = ((0 : Nat) : Int) from rfl, b0, ha]; rfl)) ?_
    rw [mk_size, e3.out]
    refine ev_pos (by omega) (ev_pos (by omega) ?_)
    rw [b1.out]
    by_cases hb : l[l.length - 1]'(by omega) = 62
    · rw [pathR_in l h1 h2 (by rw [e0, ha]) (by rw [e1, hb]), hb]
      exact refPathj0 l hs h2
    · rw [pathR_out l h1 (.inr (.inr (by rw [e1]; intro h; injection h with h; exact hb h)))]
      have : (((l[l.length - 1]'(by omega)).toNat : Int) != 62) = true := by
        rw [bne_iff_ne]
        exact fun h => hb ((nat_eq _ 62).1 h)
      rw [this]
      exact refPathj_true l
  · rw [pathR_out l h1 (.inr (.inl (by rw [e0]; intro h; injection h with h; exact ha h)))]
    exact ev_neg (fun h => ha ((nat_eq _ 60).1 (b0.symm.trans h))) (refPathj_true l)

/-! ## the statements -/
theorem answers_ev : Ev (fun k => estafettelaw01_answers.f k) true := by
  unfold estafettelaw01_answers.f
  refine Ev.bind (path_ev [60, 97, 64, 66, 46, 99, 62] (by decide)) ?_
  have e : pathR [60, 97, 64, 66, 46, 99, 62] = (mk [97, 64, 98, 46, 99], true) := by
    unfold pathR
    rw [show pathL [60, 97, 64, 66, 46, 99, 62] = some [97, 64, 98, 46, 99] from by decide +kernel]
  rw [e]
  refine ev_pos rfl (ev_pos (by rw [toList_mk]) ?_)
  have e1 : Hand.addr_Domain.f (⟨#[120]⟩ : ByteArray) = some true := by
    unfold Hand.addr_Domain.f
    exact congrArg some (by decide +kernel)
  have e2 : Hand.addr_Domain.f (⟨#[45, 120]⟩ : ByteArray) = some false := by
    unfold Hand.addr_Domain.f
    exact congrArg some (by decide +kernel)
  rw [e1, e2]
  exact ev_some (ev_pos rfl (ev_some (ev_now rfl)))
theorem AddrNames : estafettelaw01_AddrNames.Pure := by
  intro s hs
  obtain ⟨l, rfl⟩ := is_mk s
  rw [mk_size] at hs
  refine Ev.rounds ?_
  unfold estafettelaw01_AddrNames.f
  by_cases h : l.length ≤ 1000
  case neg => exact ev_pos (by rw [mk_size]; omega) (Ev.bind answers_ev (ev_now rfl))
  refine ev_neg (by rw [mk_size]; omega) ?_
  rw [split_eq l (by omega), canon_eq l (by omega)]
  refine ev_some (Ev.bind (refSplit_ev l (by omega)) (ev_some (Ev.bind (refCanon_ev l (by omega)) (Ev.bind answers_ev (ev_pos rfl ?_)))))
  unfold Hand.addr_Local.f Hand.addr_Domain.f
  rw [list_mk]
  refine ev_some (Ev.bind (refLocal_ev l (by omega)) (ev_pos (by simp) (ev_some (Ev.bind (refDomain_ev l (by omega)) (ev_pos (by simp) ?_)))))
  exact ev_pos rfl (ev_pos rfl (ev_pos (by simp) (ev_pos rfl (ev_now (by simp)))))
theorem AddrPaths : estafettelaw01_AddrPaths.Pure := by
  intro s hs
  obtain ⟨l, rfl⟩ := is_mk s
  rw [mk_size] at hs
  refine Ev.rounds ?_
  unfold estafettelaw01_AddrPaths.f
  by_cases h : l.length ≤ 1500
  case neg => exact ev_pos (by rw [mk_size]; omega) (Ev.bind answers_ev (ev_now rfl))
  refine ev_neg (by rw [mk_size]; omega) ?_
  refine Ev.bind (path_ev l (by omega)) (Ev.bind (refPath_ev l (by omega)) (Ev.bind answers_ev (ev_pos rfl ?_)))
  exact ev_pos rfl (ev_now (by simp))
end Go.Proofs.YtikfdngidbppbaaDoor.Addr
