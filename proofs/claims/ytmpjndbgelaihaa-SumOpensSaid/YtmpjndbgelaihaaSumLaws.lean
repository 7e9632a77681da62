/- The four statements of chapter 9 (sums) about the plain functions: sums of parts, sealing and opening, which bytes open, and that no one or two neighbouring bytes of what is sealed can be turned. -/
import Derived.Test.YtmpjndbgelaihaaPBx
namespace Go.Proofs.Ytmpjndbgelaihaa.Pure
open Go.RowKit Go.Proofs.Ytmpjndbgelaihaa.PA Go.Proofs.Ytmpjndbgelaihaa.PB Go.Proofs.YtmpjndbgelaihaaW.PrintWords Go.Proofs.YtmpjndbgelaihaaW.PrintLast Go.Proofs.YtmpjndbgelaihaaW.PrintMore Go.Proofs.Ytmpjndbgelaihaa.Spec

theorem answers_ev : Ev (fun _ => Hand.answers.f) true := Ev.now true
theorem SumParts : estafettelaw09_SumParts.Pure := by
  intro l0 l1 _ h0 _ _ h1 _
  refine Ev.rounds ?_
  unfold estafettelaw09_SumParts.f
  have yes : ∀ r, Ev (fun k => Hand.answers.f) r → Ev (fun k => estafettelaw09_SumParts.j0 k l0 l1 true) r := fun r h =>
    Ev.step (f := fun k => (Hand.answers.f).bind fun t120 => (some t120)) (fun k => by simp only [estafettelaw09_SumParts.j0]; rw [if_pos trivial]) (Ev.bind h (Ev.now _))
  by_cases c0 : (l0.length : Int) > 500
  · exact ev_pos c0 (yes _ answers_ev)
  · refine ev_neg c0 ?_
    by_cases c1 : (l1.length : Int) > 500
    · rw [decide_eq_true c1]
      exact yes _ answers_ev
    · rw [decide_eq_false c1]
      refine Ev.step (fun k => by simp only [estafettelaw09_SumParts.j0]; rw [if_neg (by simp)]) ?_
      refine ev_some (ev_pos (by simp; omega) (ev_some (ev_pos (by simp; omega) (ev_some (ev_some (ev_pos (by simp; omega) (ev_some (ev_pos (by simp; omega) (ev_some ?_)))))))))
      refine Ev.bind answers_ev (ev_pos rfl ?_)
      refine Ev.bind (of_ev _ (by simp; omega)) (Ev.bind (ref_ev _ (by simp; omega)) (ev_pos rfl ?_))
      refine Ev.bind (of_ev _ (by simp; omega)) (Ev.bind (ref_ev _ (by simp; omega)) (ev_pos rfl ?_))
      exact Ev.bind (of_ev [] (by decide)) (ev_now (by decide +kernel))

theorem SumOf : estafettelaw09_SumOf.Pure := by
  intro l _ h0 hw
  have hb := byte_of_wf hw
  refine Ev.rounds ?_
  unfold estafettelaw09_SumOf.f
  by_cases c0 : (l.length : Int) > 3000
  · exact ev_pos c0 (Ev.bind answers_ev (Ev.now _))
  · refine ev_neg c0 (ev_some (ev_pos (by simp; omega) ?_))
    rw [List.nil_append]
    refine Ev.bind (seal_ev l (by omega)) (Ev.bind (open_ev _ (seal_bytes l hb) (by rw [seal_len]; omega)) (Ev.bind answers_ev (ev_pos rfl ?_)))
    refine Ev.bind (of_ev l (by omega)) (Ev.bind (ref_ev l (by omega)) (ev_pos rfl ?_))
    refine Ev.bind (refSeal_ev l (by omega)) (Ev.bind (same_ev _ _ (by rw [seal_len]; omega)) (ev_pos (by simp) ?_))
    rw [open_seal]
    exact ev_pos rfl (Ev.bind (same_ev _ _ (by show l.length < _; omega)) (ev_now (by simp)))

theorem sealed_iff (l : List Int) (hb : ∀ x ∈ l, isByte x) (c : ¬ l.length < 4) : sealL (l.take (l.length - 4)) = l ↔ le4 (l.drop (l.length - 4)) = sm (l.take (l.length - 4)) := by
  have hd : ∀ x ∈ l.drop (l.length - 4), isByte x := fun x hx => hb x (List.mem_of_mem_drop hx)
  have hr := sm_range (l.take (l.length - 4))
  constructor
  · intro h
    have e : tail4 (sm (l.take (l.length - 4))) = l.drop (l.length - 4) := by
      have := List.take_append_drop (l.length - 4) l
      unfold sealL at h
      exact List.append_cancel_left (h.trans this.symm)
    rw [← e, le4_tail4 _ hr.1 hr.2]
  · intro h
    unfold sealL
    rw [← h, tail4_le4 _ hd (by rw [List.length_drop]; omega), List.take_append_drop]

theorem SumOpens : estafettelaw09_SumOpens.Pure := by
  intro l _ h0 hw
  have hb := byte_of_wf hw
  refine Ev.rounds ?_
  unfold estafettelaw09_SumOpens.f
  by_cases c0 : (l.length : Int) > 3000
  · exact ev_pos c0 (Ev.bind answers_ev (Ev.now _))
  · refine ev_neg c0 (Ev.bind (open_ev l hb (by omega)) ?_)
    have no : Ev (fun k => estafettelaw09_SumOpens.j0 k l [] false true) true := by
      refine Ev.step (fun k => by simp only [estafettelaw09_SumOpens.j0]; rw [if_pos trivial]) ?_
      exact Ev.bind answers_ev (ev_pos rfl (ev_neg (by simp) (ev_now rfl)))
    have ew : wrap64 ((l.length : Int) - 4) = ((l.length - 4 : Nat) : Int) ∨ l.length < 4 := by unfold wrap64; omega
    by_cases c : l.length < 4
    · refine ev_pos (by omega) ?_
      unfold openL
      rw [if_pos c]
      exact no
    · have ew := ew.resolve_right c
      refine ev_neg (by omega) ?_
      rw [ew, Int.toNat_natCast]
      refine ev_pos (by omega) (ev_pos (by omega) ?_)
      refine Ev.bind (refSeal_ev _ (by rw [List.length_take]; omega)) (Ev.bind (same_ev _ _ (by rw [seal_len, List.length_take]; omega)) ?_)
      unfold openL
      rw [if_neg c]
      have iff_ := sealed_iff l hb c
      by_cases c2 : le4 (l.drop (l.length - 4)) = sm (l.take (l.length - 4))
      · rw [if_pos c2, decide_eq_true (iff_.2 c2)]
        refine Ev.step (fun k => by simp only [estafettelaw09_SumOpens.j0]; rw [if_neg (by simp)]) ?_
        refine Ev.bind answers_ev (ev_pos rfl (ev_pos trivial ?_))
        rw [ew, Int.toNat_natCast]
        exact ev_pos (by omega) (ev_pos (by omega) (Ev.bind (same_ev _ _ (by rw [List.length_take]; omega)) (ev_now (by simp))))
      · rw [if_neg c2, decide_eq_false (fun h => c2 (iff_.1 h))]
        exact no

/-! two neighbouring bytes turned -/
def bx (x c : Int) : Int := Go.bits .xor .u8 x c
theorem bx_val (x c : Int) (hx : isByte x) (hc : isByte c) : isByte (bx x c) ∧ cb (bx x c) = cb x ^^^ cb c ∧ (bx x c = x → c = 0) := by
  obtain ⟨x0, x1⟩ := hx
  obtain ⟨c0, c1⟩ := hc
  obtain ⟨a, rfl⟩ := Int.eq_ofNat_of_zero_le x0
  obtain ⟨b, rfl⟩ := Int.eq_ofNat_of_zero_le c0
  have ha : a < 256 := by omega
  have hb : b < 256 := by omega
  have hlt : a ^^^ b < 2 ^ 8 := Nat.xor_lt_two_pow (by omega) (by omega)
  have e : bx (a : Int) (b : Int) = ((a ^^^ b : Nat) : Int) := by
    show IntKind.u8.wrap ((BitVec.ofInt 8 (a : Int) ^^^ BitVec.ofInt 8 (b : Int)).toNat : Int) = _
    rw [IntKind.wrap_u8]
    simp only [BitVec.ofInt_natCast, BitVec.toNat_xor, BitVec.toNat_ofNat]
    rw [Nat.mod_eq_of_lt (by omega : a < 2 ^ 8), Nat.mod_eq_of_lt (by omega : b < 2 ^ 8)]
    omega
  refine ⟨by unfold isByte; rw [e]; omega, ?_, fun h => ?_⟩
  · rw [e]
    unfold cb
    rw [show (((a ^^^ b : Nat) : Int) % 4294967296) = ((a ^^^ b : Nat) : Int) from by omega, show ((a : Int) % 4294967296) = (a : Int) from by omega, show ((b : Int) % 4294967296) = (b : Int) from by omega]
    simp only [BitVec.ofInt_natCast]
    apply BitVec.eq_of_toNat_eq
    rw [BitVec.toNat_xor, BitVec.toNat_ofNat, BitVec.toNat_ofNat, BitVec.toNat_ofNat, Nat.mod_eq_of_lt (by omega : a < 2 ^ 32), Nat.mod_eq_of_lt (by omega : b < 2 ^ 32), Nat.mod_eq_of_lt (by omega : a ^^^ b < 2 ^ 32)]
  · rw [e] at h
    have h' : a ^^^ b = a := by omega
    have : b = 0 := by
      have := congrArg (fun z => a ^^^ z) h'
      simp only [← Nat.xor_assoc, Nat.xor_self, Nat.zero_xor] at this
      exact this
    omega
theorem cb_zero {c : Int} (hc : isByte c) (h : cb c = 0#32) : c = 0 := by
  obtain ⟨c0, c1⟩ := hc
  unfold cb at h
  rw [show c % 4294967296 = c from by omega] at h
  have := congrArg BitVec.toNat h
  rw [BitVec.toNat_ofInt] at this
  simp at this
  omega
theorem fold_delta (l : List Int) : ∀ (v w : BitVec 32), l.foldl upd v = l.foldl upd w → v = w := by
  induction l with
  | nil => intro v w h; exact h
  | cons c l ih =>
    intro v w h
    have h1 := ih _ _ h
    unfold upd at h1
    have h2 : T ((v ^^^ cb c) ^^^ (w ^^^ cb c)) = 0#32 := by rw [T_xor, h1, BitVec.xor_self]
    have h3 := T_zero _ h2
    have h4 : v ^^^ w = 0#32 := by
      rw [← h3, BitVec.xor_assoc v, BitVec.xor_comm w, ← BitVec.xor_assoc (cb c), BitVec.xor_self, BitVec.zero_xor]
    have := congrArg (fun z => z ^^^ w) h4
    simpa [BitVec.xor_assoc] using this
theorem T_byte' {c d : Int} (hc : isByte c) (hd : isByte d) (h : T (cb c) = cb d) : c = 0 := by
  obtain ⟨c0, c1⟩ := hc
  obtain ⟨d0, d1⟩ := hd
  obtain ⟨a, rfl⟩ := Int.eq_ofNat_of_zero_le c0
  obtain ⟨b, rfl⟩ := Int.eq_ofNat_of_zero_le d0
  have ha : a < 256 := by omega
  by_cases z : a = 0
  · omega
  have := T_byte ⟨a, ha⟩ z
  unfold cb at h
  rw [show ((a : Int) % 4294967296) = (a : Int) from by omega, show ((b : Int) % 4294967296) = (b : Int) from by omega] at h
  simp only [BitVec.ofInt_natCast] at h
  rw [h, BitVec.toNat_ofNat] at this
  have : b % 2 ^ 32 = b := Nat.mod_eq_of_lt (by omega)
  omega
/-- Sums part where two neighbours (the first perhaps the last byte of what is summed) are turned. -/
theorem sm_eq_iff (a b : List Int) : sm a = sm b → regV a = regV b := by
  intro h
  unfold sm at h
  have h1 : ones ^^^ regV a = ones ^^^ regV b := BitVec.eq_of_toNat_eq (by omega)
  have := congrArg (fun z => ones ^^^ z) h1
  simpa [← BitVec.xor_assoc] using this
theorem turned_two (p q : List Int) (x y c d : Int) (hx : isByte x) (hy : isByte y) (hc : isByte c) (hd : isByte d) (h : sm (p ++ bx x c :: bx y d :: q) = sm (p ++ x :: y :: q)) : c = 0 ∧ d = 0 := by
  have h1 := sm_eq_iff _ _ h
  unfold regV at h1
  rw [List.foldl_append, List.foldl_append, List.foldl_cons, List.foldl_cons, List.foldl_cons, List.foldl_cons] at h1
  have h2 := fold_delta _ _ _ h1
  generalize p.foldl upd ones = v at h2
  unfold upd at h2
  rw [(bx_val x c hx hc).2.1, (bx_val y d hy hd).2.1] at h2
  have h3 : T ((T (v ^^^ (cb x ^^^ cb c)) ^^^ (cb y ^^^ cb d)) ^^^ (T (v ^^^ cb x) ^^^ cb y)) = 0#32 := by rw [T_xor, h2, BitVec.xor_self]
  have h4 := T_zero _ h3
  have h5 : T (cb c) ^^^ cb d = 0#32 := by
    have e1 : v ^^^ (cb x ^^^ cb c) = (v ^^^ cb x) ^^^ cb c := by rw [BitVec.xor_assoc]
    rw [e1, T_xor] at h4
    generalize T (v ^^^ cb x) = A at h4
    generalize T (cb c) = B at h4 ⊢
    generalize cb d = D at h4 ⊢
    generalize cb y = Y at h4
    rw [← h4]
    apply BitVec.eq_of_getLsbD_eq
    intro i hi
    simp only [BitVec.getLsbD_xor]
    cases A.getLsbD i <;> cases B.getLsbD i <;> cases D.getLsbD i <;> cases Y.getLsbD i <;> rfl
  have h6 : T (cb c) = cb d := by
    have := congrArg (fun z => z ^^^ cb d) h5
    simpa [BitVec.xor_assoc] using this
  have c0 := T_byte' hc hd h6
  subst c0
  refine ⟨rfl, cb_zero hd ?_⟩
  rw [← h6]
  decide +kernel
theorem turned_last (p : List Int) (x c : Int) (hx : isByte x) (hc : isByte c) : ones ^^^ regV (p ++ [bx x c]) = (ones ^^^ regV (p ++ [x])) ^^^ T (cb c) := by
  unfold regV
  rw [List.foldl_append, List.foldl_append, List.foldl_cons, List.foldl_cons, List.foldl_nil, List.foldl_nil]
  generalize p.foldl upd ones = v
  unfold upd
  rw [(bx_val x c hx hc).2.1, ← BitVec.xor_assoc, T_xor, BitVec.xor_assoc]
theorem le4_low (S : BitVec 32) (y d : Int) (Q : List Int) (hd : isByte d) (h : tail4 (S.toNat : Int) = y :: Q) : le4 (bx y d :: Q) = ((S ^^^ cb d).toNat : Int) := by
  obtain ⟨d0, d1⟩ := hd
  obtain ⟨b, rfl⟩ := Int.eq_ofNat_of_zero_le d0
  have hb : b < 256 := by omega
  unfold tail4 at h
  injection h with h1 h2
  subst h1 h2
  generalize hs : S.toNat = s at *
  have hlt : s < 4294967296 := by rw [← hs]; exact S.isLt
  have e : bx ((s : Int) % 256) (b : Int) = ((s % 256 ^^^ b : Nat) : Int) := by
    show IntKind.u8.wrap ((BitVec.ofInt 8 ((s : Int) % 256) ^^^ BitVec.ofInt 8 (b : Int)).toNat : Int) = _
    rw [IntKind.wrap_u8, show ((s : Int) % 256) = ((s % 256 : Nat) : Int) from by omega]
    simp only [BitVec.ofInt_natCast, BitVec.toNat_xor, BitVec.toNat_ofNat]
    have hl : s % 256 ^^^ b < 2 ^ 8 := Nat.xor_lt_two_pow (by omega) (by omega)
    rw [Nat.mod_eq_of_lt (by omega : s % 256 < 2 ^ 8), Nat.mod_eq_of_lt (by omega : b < 2 ^ 8)]
    omega
  have e2 : (S ^^^ cb (b : Int)).toNat = s ^^^ b := by
    unfold cb
    rw [BitVec.toNat_xor, hs, show ((b : Int) % 4294967296) = (b : Int) from by omega]
    simp only [BitVec.ofInt_natCast, BitVec.toNat_ofNat]
    rw [Nat.mod_eq_of_lt (by omega : b < 2 ^ 32)]
  rw [e2]
  have m := Nat.xor_mod_two_pow (a := s) (b := b) (n := 8)
  have q := Nat.xor_div_two_pow (a := s) (b := b) (n := 8)
  rw [Nat.mod_eq_of_lt (by omega : b < 2 ^ 8)] at m
  rw [Nat.div_eq_of_lt (by omega : b < 2 ^ 8), Nat.xor_zero] at q
  show bx ((s : Int) % 256) (b : Int) + 256 * ((s : Int) / 256 % 256) + 65536 * ((s : Int) / 65536 % 256) + 16777216 * ((s : Int) / 16777216 % 256) = _
  rw [e]
  have p8 : (2 : Nat) ^ 8 = 256 := rfl
  rw [p8] at m q
  omega
theorem split_at {t : List Int} {k : Nat} (h : k + 1 < t.length) : t = t.take k ++ t[k] :: t[k + 1] :: t.drop (k + 2) := by
  have h1 : t.drop k = t[k] :: t.drop (k + 1) := List.drop_eq_getElem_cons (by omega)
  have h2 : t.drop (k + 1) = t[k + 1] :: t.drop (k + 2) := List.drop_eq_getElem_cons (by omega)
  rw [← h2, ← h1, List.take_append_drop]
theorem set_two (P Q : List Int) (x y X Y : Int) : ((P ++ x :: y :: Q).set P.length X).set (P.length + 1) Y = P ++ X :: Y :: Q := by
  rw [List.set_append_right _ _ (Nat.le_refl _), Nat.sub_self, List.set_cons_zero, List.set_append_right _ _ (by omega), show P.length + 1 - P.length = 1 from by omega]
  rfl
theorem open_turned (l P Q : List Int) (x y c d : Int) (hl : ∀ x ∈ l, isByte x) (hc : isByte c) (hd : isByte d) (ht : sealL l = P ++ x :: y :: Q) (hn : ¬ (c = 0 ∧ d = 0)) :
    openL (P ++ bx x c :: bx y d :: Q) = ([], false) := by
  have hlen : (P ++ bx x c :: bx y d :: Q).length = l.length + 4 := by
    rw [← seal_len l, ht]; simp
  have hPl : P.length + 2 + Q.length = l.length + 4 := by
    have := hlen
    simp at this
    omega
  have hbt := seal_bytes l hl
  rw [ht] at hbt
  have hx : isByte x := hbt x (by simp)
  have hy : isByte y := hbt y (by simp)
  have htl : P ++ x :: y :: Q = l ++ tail4 (sm l) := ht.symm
  unfold openL
  rw [if_neg (by omega), hlen, Nat.add_sub_cancel]
  refine if_neg fun h => hn ?_
  have hs := sm_range l
  rcases Nat.lt_or_ge (P.length + 1) l.length with hcase | hcase
  · -- both lie in what is summed
    have e0 : l = P ++ x :: y :: Q.take (l.length - P.length - 2) := by
      have := congrArg (List.take l.length) htl
      rw [List.take_append_of_le_length (Nat.le_refl _), List.take_length, List.take_append, List.take_of_length_le (by omega)] at this
      obtain ⟨m, hm⟩ : ∃ m, l.length - P.length = m + 2 := ⟨l.length - P.length - 2, by omega⟩
      rw [hm] at this ⊢
      rw [List.take_succ_cons, List.take_succ_cons] at this
      exact this.symm
    have e1 : (P ++ bx x c :: bx y d :: Q).take l.length = P ++ bx x c :: bx y d :: Q.take (l.length - P.length - 2) := by
      rw [List.take_append, List.take_of_length_le (by omega)]
      obtain ⟨m, hm⟩ : ∃ m, l.length - P.length = m + 2 := ⟨l.length - P.length - 2, by omega⟩
      rw [hm, List.take_succ_cons, List.take_succ_cons]
      rfl
    have e2 : (P ++ bx x c :: bx y d :: Q).drop l.length = tail4 (sm l) := by
      have := congrArg (List.drop l.length) htl
      rw [List.drop_append_of_le_length (Nat.le_refl _), List.drop_length, List.nil_append] at this
      rw [← this, List.drop_append, List.drop_append]
      obtain ⟨m, hm⟩ : ∃ m, l.length - P.length = m + 2 := ⟨l.length - P.length - 2, by omega⟩
      rw [hm, List.drop_succ_cons, List.drop_succ_cons, List.drop_succ_cons, List.drop_succ_cons]
    rw [e1, e2, le4_tail4 _ hs.1 hs.2] at h
    refine turned_two P (Q.take (l.length - P.length - 2)) x y c d hx hy hc hd ?_
    rw [← h]
    exact congrArg sm e0
  · rcases Nat.lt_or_ge P.length l.length with hc2 | hc2
    · -- the last byte that is summed, and the first of the sum
      have hPn : l.length = P.length + 1 := by omega
      have e0 : l = P ++ [x] ∧ tail4 (sm l) = y :: Q := by
        have h1 : P ++ [x] ++ (y :: Q) = l ++ tail4 (sm l) := by rw [← htl]; simp
        have := List.append_inj h1 (by simp; omega)
        exact ⟨this.1.symm, this.2.symm⟩
      have e1 : (P ++ bx x c :: bx y d :: Q).take l.length = P ++ [bx x c] := by
        rw [hPn, show P ++ bx x c :: bx y d :: Q = (P ++ [bx x c]) ++ (bx y d :: Q) from by simp, List.take_append_of_le_length (by simp), List.take_of_length_le (by simp)]
      have e2 : (P ++ bx x c :: bx y d :: Q).drop l.length = bx y d :: Q := by
        rw [hPn, show P ++ bx x c :: bx y d :: Q = (P ++ [bx x c]) ++ (bx y d :: Q) from by simp, List.drop_append_of_le_length (by simp), List.drop_of_length_le (by simp)]
        rfl
      rw [e1, e2] at h
      have h3 : tail4 (((ones ^^^ regV (P ++ [x])).toNat : Nat) : Int) = y :: Q := by rw [← e0.1]; exact e0.2
      rw [le4_low _ y d Q hd h3] at h
      unfold sm at h
      rw [turned_last P x c hx hc] at h
      generalize ones ^^^ regV (P ++ [x]) = S at h
      have h4 : S ^^^ cb d = S ^^^ T (cb c) := BitVec.eq_of_toNat_eq (by omega)
      have h5 : cb d = T (cb c) := by
        have := congrArg (fun z => S ^^^ z) h4
        simpa [← BitVec.xor_assoc] using this
      have c0 := T_byte' hc hd h5.symm
      subst c0
      refine ⟨rfl, cb_zero hd ?_⟩
      rw [h5]
      decide +kernel
    · -- both lie in the sum
      have hbt' : ∀ z ∈ P ++ bx x c :: bx y d :: Q, isByte z := by
        intro z hz
        rcases List.mem_append.1 hz with hz | hz
        · exact hbt z (by simp [hz])
        · rcases List.mem_cons.1 hz with rfl | hz
          · exact (bx_val x c hx hc).1
          · rcases List.mem_cons.1 hz with rfl | hz
            · exact (bx_val y d hy hd).1
            · exact hbt z (by simp [hz])
      have e1 : (P ++ bx x c :: bx y d :: Q).take l.length = l := by
        have := congrArg (List.take l.length) htl
        rw [List.take_append_of_le_length (Nat.le_refl _), List.take_length, List.take_append_of_le_length hc2] at this
        rw [List.take_append_of_le_length hc2, this]
      have h6 : (P ++ bx x c :: bx y d :: Q).drop l.length = tail4 (sm l) := by
        rw [e1] at h
        rw [← h, tail4_le4 _ (fun z hz => hbt' z (List.mem_of_mem_drop hz)) (by rw [List.length_drop]; omega)]
      have h7 : P ++ bx x c :: bx y d :: Q = P ++ x :: y :: Q := by
        rw [htl, ← List.take_append_drop l.length (P ++ bx x c :: bx y d :: Q), e1, h6]
      have h8 := List.append_cancel_left h7
      injection h8 with h9 h10
      injection h10 with h10 _
      exact ⟨(bx_val x c hx hc).2.2 h9, (bx_val y d hy hd).2.2 h10⟩

theorem num_of_wf {k : IntKind} {x : Int} (h : (Lit.int k x).wf = true) : k.min ≤ x ∧ x ≤ k.max := by
  simpa only [Lit.wf, Bool.and_eq_true, decide_eq_true_eq] using h
theorem SumTurned : estafettelaw09_SumTurned.Pure := by
  intro l at_ c d _ h0 hw w1 w2 w3
  have hb := byte_of_wf hw
  have ha : 0 ≤ at_ ∧ at_ ≤ 65535 := num_of_wf w1
  have hc : isByte c := by have h : 0 ≤ c ∧ c ≤ 255 := num_of_wf w2; exact ⟨h.1, by omega⟩
  have hd : isByte d := by have h : 0 ≤ d ∧ d ≤ 255 := num_of_wf w3; exact ⟨h.1, by omega⟩
  refine Ev.rounds ?_
  unfold estafettelaw09_SumTurned.f
  have yes : Ev (fun k => estafettelaw09_SumTurned.j0 k l at_ c d true) true :=
    Ev.step (f := fun k => (Hand.answers.f).bind fun t200 => (some t200)) (fun k => by simp only [estafettelaw09_SumTurned.j0]; rw [if_pos trivial]) (Ev.bind answers_ev (Ev.now _))
  by_cases c0 : (l.length : Int) > 1000
  · exact ev_pos c0 yes
  · refine ev_neg c0 ?_
    have no : ¬ (c = 0 ∧ d = 0) → Ev (fun k => estafettelaw09_SumTurned.j0 k l at_ c d false) true := by
      intro hn
      refine Ev.step (fun k => by simp only [estafettelaw09_SumTurned.j0]; rw [if_neg (by simp)]) ?_
      refine Ev.bind (refSeal_ev l (by omega)) ?_
      have hlen := seal_len l
      have hsb := seal_bytes l hb
      have em : wrap64 (((sealL l).length : Int) - 1) = (l.length + 3 : Int) := by unfold wrap64; omega
      have ea : wrap64 at_ = at_ := by unfold wrap64; omega
      rw [em, ea]
      obtain ⟨k, hk⟩ := Int.eq_ofNat_of_zero_le (Int.emod_nonneg at_ (by omega : ((l.length : Int) + 3) ≠ 0))
      have hk1 : at_ % ((l.length : Int) + 3) < (l.length : Int) + 3 := Int.emod_lt_of_pos _ (by omega)
      have et : Int.tmod at_ ((l.length : Int) + 3) = (k : Int) := by rw [Int.tmod_eq_emod_of_nonneg ha.1, hk]
      rw [et]
      have ek : wrap64 ((k : Int) + 1) = ((k + 1 : Nat) : Int) := by unfold wrap64; omega
      rw [ek]
      refine ev_neg (by omega) (ev_pos (by omega) (ev_pos (by omega) (ev_some (ev_pos (by omega) (ev_pos (by omega) ?_)))))
      have hkl : k + 1 < (sealL l).length := by omega
      have hsp := split_at hkl
      generalize hP : (sealL l).take k = P at hsp
      generalize hx : (sealL l)[k] = x at hsp
      generalize hy : (sealL l)[k + 1] = y at hsp
      generalize hQ : (sealL l).drop (k + 2) = Q at hsp
      have hPk : P.length = k := by rw [← hP, List.length_take]; omega
      have r1 : rd (sealL l) (k : Int) = x := by rw [← hx]; unfold rd; simp [List.getD_eq_getElem?_getD, (by omega : k < (sealL l).length)]
      have r2 : ∀ X, rd ((sealL l).set k X) ((k + 1 : Nat) : Int) = y := by
        intro X
        rw [← hy]
        unfold rd
        simp [List.getD_eq_getElem?_getD, hkl]
      rw [r1, Int.toNat_natCast, Int.toNat_natCast, r2]
      have e3 : ((sealL l).set k (Go.bits .xor .u8 x c)).set (k + 1) (Go.bits .xor .u8 y d) = P ++ bx x c :: bx y d :: Q := by
        rw [hsp, ← hPk]
        exact set_two P Q x y _ _
      rw [e3]
      have hbP : ∀ z ∈ P ++ bx x c :: bx y d :: Q, isByte z := by
        rw [hsp] at hsb
        have hx' : isByte x := hsb x (by simp)
        have hy' : isByte y := hsb y (by simp)
        intro z hz
        rcases List.mem_append.1 hz with hz | hz
        · exact hsb z (by simp [hz])
        · rcases List.mem_cons.1 hz with rfl | hz
          · exact (bx_val x c hx' hc).1
          · rcases List.mem_cons.1 hz with rfl | hz
            · exact (bx_val y d hy' hd).1
            · exact hsb z (by simp [hz])
      have hlP : (P ++ bx x c :: bx y d :: Q).length < 140737488355000 := by
        have := congrArg List.length hsp
        simp at this ⊢
        omega
      refine Ev.bind (open_ev _ hbP hlP) (Ev.bind answers_ev (ev_pos rfl ?_))
      rw [open_turned l P Q x y c d hb hc hd hsp hn]
      exact ev_neg (by simp) (ev_now rfl)
    by_cases c1 : c = 0
    · refine ev_pos c1 ?_
      by_cases c2 : d = 0
      · rw [show (d == 0) = true from by simp [c2]]
        exact yes
      · rw [show (d == 0) = false from by simp [c2]]
        exact no (fun h => c2 h.2)
    · exact ev_neg c1 (no (fun h => c1 h.1))
end Go.Proofs.Ytmpjndbgelaihaa.Pure
