/- The plain statements of chapter 1: routes. -/
import Derived.Test.YtikfdngidbppbaaDoorAddrLaws
namespace Go.Proofs.YtikfdngidbppbaaDoor.Addr
open Go.RowKit Go.Proofs.YtikfdngidbppbaaDoor.PB Go.Proofs.YtikfdngidbppbaaDoorW.PrintWords Go.Proofs.YtikfdngidbppbaaDoorW.PrintLast Go.Proofs.YtikfdngidbppbaaDoorW.PrintMore
set_option linter.unusedVariables false

/-- A route: each domain behind an '@', a ',' between two. -/
def hopsL : List (List UInt8) → List UInt8
  | [] => []
  | d :: ds => if ds = [] then 64 :: d else (64 :: d) ++ 44 :: hopsL ds
theorem hops_snoc (ds : List (List UInt8)) (d : List UInt8) : hopsL (ds ++ [d]) = (if ds = [] then [] else hopsL ds ++ [44]) ++ 64 :: d := by
  induction ds with
  | nil => rfl
  | cons e ds ih =>
    rw [List.cons_append, hopsL, if_neg (by simp), ih, hopsL]
    cases ds with
    | nil => simp
    | cons f ds => simp
theorem hops_no (c : UInt8) (h1 : c ≠ 64) (h2 : c ≠ 44) (ds : List (List UInt8)) (h : ∀ d ∈ ds, c ∉ d) : c ∉ hopsL ds := by
  induction ds with
  | nil => simp [hopsL]
  | cons e ds ih =>
    have he := h e List.mem_cons_self
    have ih := ih fun d hd => h d (List.mem_cons_of_mem _ hd)
    rw [hopsL]
    split <;> simp [h1, h2, he, ih]
theorem hops_parts (ds : List (List UInt8)) (hn : ds ≠ []) (h : ∀ d ∈ ds, (44 : UInt8) ∉ d) : parts 44 (hopsL ds) = ds.map (fun d => 64 :: d) := by
  induction ds with
  | nil => exact absurd rfl hn
  | cons e ds ih =>
    have he : (44 : UInt8) ∉ 64 :: e := by
      have := h e List.mem_cons_self
      simp [this]
    rw [hopsL]
    by_cases h0 : ds = []
    · rw [if_pos h0, parts_no 44 _ he, h0]
      rfl
    · rw [if_neg h0, parts_app 44 _ _ he, ih h0 fun d hd => h d (List.mem_cons_of_mem _ hd)]
      rfl
theorem hops_ok (ds : List (List UInt8)) : (ds.map (fun d => (64 : UInt8) :: d)).all hopOk = ds.all domainL := by
  rw [List.all_map]
  congr 1
theorem hops_head (ds : List (List UInt8)) (hn : ds ≠ []) (r : List UInt8) : (hopsL ds ++ r).head? = some 64 := by
  cases ds with
  | nil => exact absurd rfl hn
  | cons e ds =>
    rw [hopsL]
    split <;> rfl
theorem path_hops (ds : List (List UInt8)) (x : List UInt8) (hn : ds ≠ []) (h44 : ∀ d ∈ ds, (44 : UInt8) ∉ d) (h58 : ∀ d ∈ ds, (58 : UInt8) ∉ d) :
    pathR (60 :: ((hopsL ds ++ 58 :: x) ++ [62])) = if ds.all domainL then canonR x else (mk [], false) := by
  unfold pathR
  rw [path_angle _ (by simp)]
  unfold routeL
  rw [if_pos (hops_head ds hn _), cut_app 58 _ _ (hops_no 58 (by decide) (by decide) ds h58)]
  dsimp only
  rw [hops_parts ds hn h44, hops_ok]
  by_cases h : ds.all domainL = true
  · rw [if_pos h, if_pos h]
    rfl
  · rw [if_neg h, if_neg h]
    rfl
theorem hops_len (ds : List (List UInt8)) (h : ∀ d ∈ ds, d.length ≤ 100) : (hopsL ds).length ≤ 102 * ds.length := by
  induction ds with
  | nil => simp [hopsL]
  | cons e ds ih =>
    have he := h e List.mem_cons_self
    have ih := ih fun d hd => h d (List.mem_cons_of_mem _ hd)
    rw [hopsL, List.length_cons]
    split
    · rw [List.length_cons]
      omega
    · rw [List.length_append, List.length_cons, List.length_cons]
      omega
section
variable (x : List UInt8) (L : List (List UInt8)) (hx : x.length ≤ 200) (hL : L.length ≤ 5) (hL0 : L ≠ [])
include hx hL hL0
theorem routes_end (hok : ∀ d ∈ L, d.length ≤ 100 ∧ (44 : UInt8) ∉ d ∧ (58 : UInt8) ∉ d) :
    Ev (fun k => estafettelaw01_AddrRoutes.l0 k (mk x) (L.map mk) (mk (60 :: hopsL L)) (L.all domainL) (L.length : Int)) true := by
  have hlen := hops_len L fun d hd => (hok d hd).1
  have e58 : (⟨#[58]⟩ : ByteArray) = mk [58] := rfl
  have e62 : (⟨#[62]⟩ : ByteArray) = mk [62] := rfl
  have hj : (mk (60 :: hopsL L) ++ mk [58]) ++ mk x ++ mk [62] = mk (60 :: ((hopsL L ++ 58 :: x) ++ [62])) := by
    rw [mk_app, mk_app, mk_app]
    congr 1
    simp
  have hp := path_hops L x hL0 (fun d hd => (hok d hd).2.1) (fun d hd => (hok d hd).2.2)
  refine Ev.step (f := fun k => (estafetteref01_Canon.f k (mk x)).bind fun bt197 => (if (mk (60 :: hopsL L)).size + 1 ≤ 9223372036854775807 then (if (mk (60 :: hopsL L) ++ (⟨#[58]⟩ : ByteArray)).size + (mk x).size ≤ 9223372036854775807 then (if ((mk (60 :: hopsL L) ++ (⟨#[58]⟩ : ByteArray)) ++ mk x).size + 1 ≤ 9223372036854775807 then ((addr_Path.f k (((mk (60 :: hopsL L) ++ (⟨#[58]⟩ : ByteArray)) ++ mk x) ++ (⟨#[62]⟩ : ByteArray))).bind fun bt199 => ((estafettelaw01_answers.f k).bind fun t201 => (if t201 = true then (if L.all domainL = true then (if (bt199.2 == bt197.2) = true then (if bt199.2 = true then (some (bt199.1.toList == bt197.1.toList)) else (some true)) else (some false)) else (if (bt199.2 == false) = true then (if bt199.2 = true then (some (bt199.1.toList == bt197.1.toList)) else (some true)) else (some false))) else (some false)))) else (none)) else (none)) else (none))) (fun k => ?_) ?_
  · simp only [estafettelaw01_AddrRoutes.l0]
    rw [if_neg (by rw [List.length_map]; omega)]
  · refine Ev.bind (refCanon_ev x (by omega)) ?_
    rw [e58, e62, hj]
    refine ev_pos (by rw [mk_size, List.length_cons]; omega) (ev_pos (by rw [mk_app, mk_size, mk_size, List.length_append, List.length_cons, List.length_singleton]; omega) (ev_pos (by rw [mk_app, mk_app, mk_size, List.length_append, List.length_append, List.length_cons, List.length_singleton]; omega) (Ev.bind (path_ev _ (by simp; omega)) (Ev.bind answers_ev (ev_pos rfl ?_)))))
    rw [hp]
    by_cases ha : L.all domainL = true
    · refine ev_pos ha ?_
      rw [if_pos ha]
      refine ev_pos (by simp) ?_
      cases hb : (canonR x).2 with
      | true => exact ev_pos rfl (ev_now (by simp))
      | false => exact ev_neg (by simp) (ev_now rfl)
    · refine ev_neg ha ?_
      rw [if_neg ha]
      exact ev_pos rfl (ev_neg (by simp) (ev_now rfl))
theorem routes_loop : ∀ (d i : Nat), L.length - i = d → i ≤ L.length → (∀ d ∈ L.take i, d.length ≤ 100 ∧ (44 : UInt8) ∉ d ∧ (58 : UInt8) ∉ d) →
    Ev (fun k => estafettelaw01_AddrRoutes.l0 k (mk x) (L.map mk) (mk (60 :: hopsL (L.take i))) ((L.take i).all domainL) (i : Int)) true := by
  intro d
  induction d with
  | zero =>
    intro i hd hi hok
    obtain rfl : i = L.length := by omega
    rw [List.take_length] at hok ⊢
    exact routes_end x L hx hL hL0 hok
  | succ d ih =>
    intro i hd hi hok
    have hl : i < L.length := by omega
    have e2 := w_succ i (by omega)
    obtain ⟨p, hq⟩ : ∃ p, p = L[i] := ⟨_, rfl⟩
    have hr : Aside0 (rdOf ByteArray.empty (L.map mk) (i : Int) = mk p) := ⟨by rw [rd_mk L i hl, hq]⟩
    by_cases hp : p.length ≤ 100
    case neg =>
      refine Ev.step (f := fun k => (estafettelaw01_answers.f k).bind fun t203 => (some t203)) (fun k => ?_) (Ev.bind answers_ev (ev_now rfl))
      simp only [estafettelaw01_AddrRoutes.l0]
      rw [if_pos (by rw [List.length_map]; omega), if_pos (by omega), hr.out, if_pos (by rw [mk_size]; omega)]
    have hlen := hops_len (L.take i) fun d hd => (hok d hd).1
    have hll : (L.take i).length ≤ 5 := by rw [List.length_take]; omega
    have hnx := ih (i + 1) (by omega) (by omega)
    rw [List.take_succ_eq_append_getElem hl, ← hq] at hnx
    -- the bytes of this domain
    have inner : ∀ (d2 j : Nat), p.length - j = d2 → j ≤ p.length → (44 : UInt8) ∉ p.take j → (58 : UInt8) ∉ p.take j → Ev (fun k => estafettelaw01_AddrRoutes.l1 k (mk x) (L.map mk) (mk (60 :: hopsL (L.take i ++ [p]))) ((L.take i).all domainL) (i : Int) (j : Int)) true := by
      intro d2
      induction d2 with
      | zero =>
        intro j hd2 hj h44 h58
        obtain rfl : j = p.length := by omega
        rw [List.take_length] at h44 h58
        have hnx := hnx (by
          intro d hd
          rcases List.mem_append.1 hd with hd | hd
          · exact hok d hd
          · rw [List.mem_singleton.1 hd]
            exact ⟨hp, h44, h58⟩)
        rw [List.all_append, List.all_cons, List.all_nil, Bool.and_true] at hnx
        by_cases ha : (L.take i).all domainL = true
        · rw [ha, Bool.true_and] at hnx
          rw [ha]
          refine Ev.step (f := fun k => (estafetteref01_Domain.f k (mk p)).bind fun t211 => (estafettelaw01_AddrRoutes.l0 k (mk x) (L.map mk) (mk (60 :: hopsL (L.take i ++ [p]))) t211 ((i + 1 : Nat) : Int))) (fun k => ?_) (Ev.bind (refDomain_ev p (by omega)) hnx)
          simp only [estafettelaw01_AddrRoutes.l1]
          rw [if_pos (by omega), if_pos (by rw [List.length_map]; omega), hr.out, if_neg (by rw [mk_size]; omega), if_pos trivial, e2.out]
        · have ha' : (L.take i).all domainL = false := by simpa using ha
          rw [ha', Bool.false_and] at hnx
          rw [ha']
          refine Ev.step (fun k => ?_) hnx
          simp only [estafettelaw01_AddrRoutes.l1]
          rw [if_pos (by omega), if_pos (by rw [List.length_map]; omega), hr.out, if_neg (by rw [mk_size]; omega), if_neg (by simp), e2.out]
      | succ d2 ih2 =>
        intro j hd2 hj h44 h58
        have hlj : j < p.length := by omega
        have e3 := w_succ j (by omega)
        refine Ev.step (f := fun k => if ((p[j]).toNat : Int) = 44 then ((estafettelaw01_answers.f k).bind fun t207 => (some t207)) else (if ((p[j]).toNat : Int) = 58 then ((estafettelaw01_answers.f k).bind fun t209 => (some t209)) else (estafettelaw01_AddrRoutes.l1 k (mk x) (L.map mk) (mk (60 :: hopsL (L.take i ++ [p]))) ((L.take i).all domainL) (i : Int) ((j + 1 : Nat) : Int)))) (fun k => ?_) ?_
        · simp only [estafettelaw01_AddrRoutes.l1]
          rw [if_pos (by omega), if_pos (by rw [List.length_map]; omega), hr.out, if_pos (by rw [mk_size]; omega), if_pos (by omega), bt_mk p j hlj, e3.out]
        · by_cases c1 : p[j] = 44
          · exact ev_pos (by rw [c1]; rfl) (Ev.bind answers_ev (ev_now rfl))
          refine ev_neg (fun h => c1 ((nat_eq _ 44).1 h)) ?_
          by_cases c2 : p[j] = 58
          · exact ev_pos (by rw [c2]; rfl) (Ev.bind answers_ev (ev_now rfl))
          refine ev_neg (fun h => c2 ((nat_eq _ 58).1 h)) (ih2 (j + 1) (by omega) (by omega) ?_ ?_)
          · rw [List.take_succ_eq_append_getElem hlj, List.mem_append, List.mem_singleton, not_or]
            exact ⟨h44, fun h => c1 h.symm⟩
          · rw [List.take_succ_eq_append_getElem hlj, List.mem_append, List.mem_singleton, not_or]
            exact ⟨h58, fun h => c2 h.symm⟩
    have hin := inner p.length 0 rfl (Nat.zero_le _) (by simp) (by simp)
    have e44 : (⟨#[44]⟩ : ByteArray) = mk [44] := rfl
    have j2 : ∀ (q : List UInt8), q.length ≤ 2000 → q ++ 64 :: p = 60 :: hopsL (L.take i ++ [p]) → Ev (fun k => estafettelaw01_AddrRoutes.j2 k (mk x) (L.map mk) (mk q) ((L.take i).all domainL) (i : Int)) true := by
      intro q hql hqe
      refine Ev.step (fun k => ?_) hin
      simp only [estafettelaw01_AddrRoutes.j2]
      rw [if_pos (by rw [mk_size]; omega), if_pos (by omega), if_pos (by rw [List.length_map]; omega), hr.out, at_mk, mk_app, if_pos (by rw [mk_size, mk_size, List.length_append, List.length_singleton]; omega), mk_app, List.append_assoc]
      rw [show q ++ ([64] ++ p) = 60 :: hopsL (L.take i ++ [p]) from hqe]
      rfl
    have hs := hops_snoc (L.take i) p
    by_cases h0 : i = 0
    · subst h0
      rw [List.take_zero] at hs hlen ⊢
      refine Ev.step (fun k => ?_) (j2 [60] (by simp) (by rw [List.take_zero]; rfl))
      simp only [estafettelaw01_AddrRoutes.l0]
      rw [if_pos (by rw [List.length_map]; omega), if_pos (by omega), hr.out, if_neg (by rw [mk_size]; omega), if_neg (by omega)]
      rfl
    · have hne : L.take i ≠ [] := by
        intro h
        have := congrArg List.length h
        rw [List.length_take, List.length_nil] at this
        omega
      rw [if_neg hne] at hs
      refine Ev.step (fun k => ?_) (j2 (60 :: hopsL (L.take i) ++ [44]) (by rw [List.length_append, List.length_cons, List.length_singleton]; omega) (by rw [hs]; simp))
      simp only [estafettelaw01_AddrRoutes.l0]
      rw [if_pos (by rw [List.length_map]; omega), if_pos (by omega), hr.out, if_neg (by rw [mk_size]; omega), if_pos (by omega), if_pos (by rw [mk_size, List.length_cons]; omega), e44, mk_app]
end
theorem map_mk (l : List ByteArray) : ∃ L : List (List UInt8), l = L.map mk := ⟨l.map fun s => s.data.toList, by rw [List.map_map]; exact (List.map_id'' (fun s => mk_list s) l).symm⟩
theorem AddrRoutes (s : ByteArray) (l : List ByteArray) (hs : s.size ≤ 140737488351232) : ∃ k, estafettelaw01_AddrRoutes.f k s l = some true := by
  obtain ⟨x, rfl⟩ := is_mk s
  obtain ⟨L, rfl⟩ := map_mk l
  rw [mk_size] at hs
  refine Ev.rounds ?_
  have skip : Ev (fun k => estafettelaw01_AddrRoutes.j0 k (mk x) (L.map mk) true) true :=
    Ev.step (f := fun k => (estafettelaw01_answers.f k).bind fun t196 => (some t196)) (fun k => by simp only [estafettelaw01_AddrRoutes.j0]; rw [if_pos trivial]) (Ev.bind answers_ev (ev_now rfl))
  unfold estafettelaw01_AddrRoutes.f
  by_cases h1 : x.length ≤ 200
  case neg => exact ev_pos (by rw [mk_size]; omega) skip
  refine ev_neg (by rw [mk_size]; omega) ?_
  by_cases h2 : L.length ≤ 5
  case neg => exact ev_pos (by rw [List.length_map]; omega) skip
  refine ev_neg (by rw [List.length_map]; omega) ?_
  by_cases h3 : L = []
  · subst h3
    exact skip
  · have hlp : 0 < L.length := List.length_pos_iff.2 h3
    rw [show ((((L.map mk).length : Nat) : Int) == 0) = false from by rw [List.length_map, beq_eq_false_iff_ne]; omega]
    refine Ev.step (fun k => ?_) (routes_loop x L h1 h2 h3 L.length 0 rfl (Nat.zero_le _) (by simp))
    simp only [estafettelaw01_AddrRoutes.j0]
    rw [if_neg (by simp)]
    rfl
end Go.Proofs.YtikfdngidbppbaaDoor.Addr
