/- The log's printed functions, as the model has them: frame, split, Frame, Same, SameAll, name. -/
import Derived.Test.YtipclnniaenciaaLogMod
namespace Go.Proofs.Ytipclnniaenciaa.Hand
open Go.RowKit Go.Proofs.Ytipclnniaenciaa.PA Go.Proofs.YtipclnniaenciaaW.PrintWords Go.Proofs.YtipclnniaenciaaW.PrintLast Go.Proofs.YtipclnniaenciaaW.PrintMore Go.Proofs.Ytipclnniaenciaa.Spec
set_option linter.unusedVariables false
set_option linter.unusedSimpArgs false
theorem frame_ev (l : List Int) (hn : l.length < 140737488350000) : Ev (fun k => log_frame.f k l) (frI l) := by
  unfold log_frame.f
  refine ev_some (ev_pos (by show 4 + l.length < _; omega) ?_)
  exact Ev.bind (seal_ev (be4 l.length ++ l) (by rw [List.length_append]; show 4 + l.length < _; omega)) (ev_now rfl)
theorem refFrame_ev (l : List Int) (hn : l.length < 140737488350000) : Ev (fun k => estafetteref08_Frame.f k l) (frI l) := by
  unfold estafetteref08_Frame.f
  refine ev_some (ev_pos (by show 4 + l.length < _; omega) ?_)
  exact Ev.bind (refSeal_ev (be4 l.length ++ l) (by rw [List.length_append]; show 4 + l.length < _; omega)) (ev_now rfl)
theorem sealed_iff (l : List Int) (hb : ∀ x ∈ l, isByte x) (c : ¬ l.length < 4) : sealL (l.take (l.length - 4)) = l ↔ le4 (l.drop (l.length - 4)) = sm (l.take (l.length - 4)) := by
  have hd : ∀ x ∈ l.drop (l.length - 4), isByte x := fun x hx => hb x (List.mem_of_mem_drop hx)
  have hr := sm_range (l.take (l.length - 4))
  constructor
  · intro h
    have e : tail4 (sm (l.take (l.length - 4))) = l.drop (l.length - 4) := by
      have := List.take_append_drop (l.length - 4) l
      unfold sealL at h
      exact List.append_cancel_left (h.trans this.symm)
    rw [← e, le4_tail4 _ hr.1 hr.2]
  · intro h
    unfold sealL
    rw [← h, tail4_le4 _ hd (by rw [List.length_drop]; omega), List.take_append_drop]
theorem or_byte (a b : Nat) (ha : a < 16777216) (hb : b < 256) : Go.bits .or .i64 (wrap64 ((a : Int) * 256)) (wrap64 (b : Int)) = ((a * 256 + b : Nat) : Int) := by
  have hk : ∀ m : Int, 0 ≤ m → m < 2 ^ 32 → IntKind.i64.wrap m = m := fun m h0 h1 => by
    refine Go.IntWalk.i64_in m ?_
    have h2 : m < 4294967296 := h1
    clear h1
    omega
  have w1 : wrap64 ((a : Int) * 256) = (a : Int) * 256 := by unfold wrap64; omega
  have w2 : wrap64 (b : Int) = (b : Int) := by unfold wrap64; omega
  rw [w1, w2]
  have e : ((a : Int) * 256) = ((a * 256 : Nat) : Int) := (Int.natCast_mul a 256).symm
  have q1 : a * 256 < 2 ^ 32 := Nat.lt_of_lt_of_le (Nat.mul_lt_mul_of_pos_right ha (by decide)) (by decide)
  have q2 : b < 2 ^ 32 := by show b < 4294967296; omega
  rw [e, (bits_nat .i64 32 (by decide) hk (a * 256) b q1 q2).2]
  have h2 : a * 256 = 2 ^ 8 * a := by omega
  rw [h2, ← Nat.two_pow_add_eq_or_of_lt (i := 8) hb a]
theorem rd_nat {l : List Int} (h : ∀ x ∈ l, isByte x) (i : Int) : ∃ b : Nat, rd l i = (b : Int) ∧ b < 256 := by
  have h2 := rd_byte h i
  unfold isByte at h2
  exact ⟨(rd l i).toNat, by omega, by omega⟩
def sizeI (rs : List (List Int)) : Nat := (rs.map (fun x => x.length + 8)).sum
theorem j2_yes (k : Nat) (l : List Int) (out : List (List Int)) (a : Int) (y : List Int) (x : Int) : log_split.j2 (k + 1) l out a y x true = some (out, a) := by
  unfold log_split.j2
  exact if_pos rfl
theorem j2_no (k : Nat) (l : List Int) (out : List (List Int)) (a : Int) (y : List Int) (n : Nat) (hn : n ≤ y.length) : log_split.j2 (k + 1) l out a y (n : Int) false =
    (sum_Open.f k (y.take n)).bind fun bt150 => (if bt150.2 = true then (if 4 ≤ (bt150.1.length : Int) then (if out.length < 5864062014805 then (log_split.l0 k l (out ++ [(bt150.1.drop 4)]) (wrap64 (a + (n : Int)))) else (none)) else (none)) else (some (out, a))) := by
  conv => lhs; unfold log_split.j2
  rw [if_neg (by simp), if_pos (by omega), if_pos (by omega), Int.toNat_natCast]
theorem j2_stop (l : List Int) (out : List (List Int)) (a : Int) (y : List Int) (x : Int) : Ev (fun k => log_split.j2 k l out a y x true) (out, a) :=
  Ev.step (f := fun _ => some (out, a)) (fun k => j2_yes k l out a y x) (Ev.now _)
theorem j2_go (l : List Int) (out : List (List Int)) (a : Int) (y : List Int) (n : Nat) (r : List (List Int) × Int) (hn : n ≤ y.length)
    (h : Ev (fun k => (sum_Open.f k (y.take n)).bind fun bt150 => (if bt150.2 = true then (if 4 ≤ (bt150.1.length : Int) then (if out.length < 5864062014805 then (log_split.l0 k l (out ++ [(bt150.1.drop 4)]) (wrap64 (a + (n : Int)))) else (none)) else (none)) else (some (out, a)))) r) :
    Ev (fun k => log_split.j2 k l out a y (n : Int) false) r :=
  Ev.step (fun k => j2_no k l out a y n hn) h
/-- One round of split. -/
theorem split_round (l : List Int) (out : List (List Int)) (at_ : Nat) (hb : ∀ x ∈ l, isByte x) (hn : l.length < 100000000000) (hat : at_ ≤ l.length) (ho : out.length < 100000000000) (r : List (List Int) × Int)
    (h0 : okI (l.drop at_) = false → (out, (at_ : Int)) = r)
    (h1 : okI (l.drop at_) = true → Ev (fun k => log_split.l0 k l (out ++ [((l.drop at_).take ((val4 (l.drop at_)).toNat + 4)).drop 4]) ((at_ + ((val4 (l.drop at_)).toNat + 8) : Nat) : Int)) r) :
    Ev (fun k => log_split.l0 k l out (at_ : Int)) r := by
  have hbd : ∀ x ∈ l.drop at_, isByte x := fun x hx => hb x (List.mem_of_mem_drop hx)
  have hdl : (l.drop at_).length = l.length - at_ := List.length_drop ..
  obtain ⟨y, hy⟩ : ∃ y, y = l.drop at_ := ⟨_, rfl⟩
  rw [← hy] at h0 h1 hbd hdl
  refine Ev.step (f := fun k => if (y.length : Int) < 4 then some (out, (at_ : Int)) else if 4 ≤ (y.length : Int) then (some (y.take 4)).bind fun y138 => log_split.l1 k l out (at_ : Int) y 0 y138 (y138.length : Int) 0 else none) (fun k => ?_) ?_
  · simp only [log_split.l0]
    rw [if_pos (by omega), if_pos (by omega), Int.toNat_natCast, ← hy]
    rfl
  · by_cases c4 : y.length < 4
    · refine ev_pos (by omega) (ev_now (h0 ?_))
      unfold okI
      rw [decide_eq_false_iff_not]
      omega
    · refine ev_neg (by omega) (ev_pos (by omega) (ev_some ?_))
      have ht4 : (y.take 4).length = 4 := by rw [List.length_take]; omega
      have hbt : ∀ x ∈ y.take 4, isByte x := fun x hx => hbd x (List.mem_of_mem_take hx)
      have hrd : ∀ i : Nat, i < 4 → rd (y.take 4) (i : Int) = rd y (i : Int) := fun i hi => by
        unfold rd
        rw [Int.toNat_natCast, List.getD_eq_getElem?_getD, List.getD_eq_getElem?_getD, List.getElem?_take_of_lt hi]
      obtain ⟨b0, e0, l0⟩ := rd_nat hbd 0
      obtain ⟨b1, e1, l1⟩ := rd_nat hbd 1
      obtain ⟨b2, e2, l2⟩ := rd_nat hbd 2
      obtain ⟨b3, e3, l3⟩ := rd_nat hbd 3
      have one : ∀ (x j b : Nat), x < 16777216 → j < 4 → rd (y.take 4) (j : Int) = (b : Int) → b < 256 → Ev (fun k => log_split.l1 k l out (at_ : Int) y ((x * 256 + b : Nat) : Int) (y.take 4) ((4 : Nat) : Int) ((j + 1 : Nat) : Int)) r → Ev (fun k => log_split.l1 k l out (at_ : Int) y ((x : Nat) : Int) (y.take 4) ((4 : Nat) : Int) ((j : Nat) : Int)) r := by
        intro x j b hx hj hr hb3 h
        refine Ev.step (f := fun k => log_split.l1 k l out (at_ : Int) y ((x * 256 + b : Nat) : Int) (y.take 4) ((4 : Nat) : Int) ((j + 1 : Nat) : Int)) (fun k => ?_) h
        simp only [log_split.l1]
        rw [if_pos (by omega), if_pos (by omega), if_pos (by rw [ht4]; omega), hr, or_byte x b hx hb3, show wrap64 ((j : Int) + 1) = ((j + 1 : Nat) : Int) from by unfold wrap64; omega]
      rw [ht4]
      have r0 : rd (y.take 4) ((0 : Nat) : Int) = (b0 : Int) := (hrd 0 (by omega)).trans e0
      have r1 : rd (y.take 4) ((1 : Nat) : Int) = (b1 : Int) := (hrd 1 (by omega)).trans e1
      have r2 : rd (y.take 4) ((2 : Nat) : Int) = (b2 : Int) := (hrd 2 (by omega)).trans e2
      have r3 : rd (y.take 4) ((3 : Nat) : Int) = (b3 : Int) := (hrd 3 (by omega)).trans e3
      refine one 0 0 b0 (by omega) (by omega) r0 l0 (one (0 * 256 + b0) 1 b1 (by omega) (by omega) r1 l1 (one ((0 * 256 + b0) * 256 + b1) 2 b2 (by omega) (by omega) r2 l2 (one (((0 * 256 + b0) * 256 + b1) * 256 + b2) 3 b3 (by omega) (by omega) r3 l3 ?_)))
      obtain ⟨n, hn4⟩ : ∃ n : Nat, n = ((((0 * 256 + b0) * 256 + b1) * 256 + b2) * 256 + b3) := ⟨_, rfl⟩
      rw [← hn4]
      have hv : val4 y = (n : Int) := by
        unfold val4
        rw [e0, e1, e2, e3]
        clear one r0 r1 r2 r3 hrd h1 h0 hbt hbd hb
        omega
      have hvn : (val4 y).toNat = n := by rw [hv]; exact Int.toNat_natCast n
      rw [hvn] at h1
      have hok : okI y = decide (8 ≤ y.length ∧ n ≤ 262144 ∧ n + 8 ≤ y.length ∧ sealL (y.take (n + 4)) = y.take (n + 8)) := by
        unfold okI
        rw [hvn, hv, decide_eq_decide]
        constructor
        · rintro ⟨p1, p2, p3, p4⟩; exact ⟨p1, by omega, p3, p4⟩
        · rintro ⟨p1, p2, p3, p4⟩; exact ⟨p1, by omega, p3, p4⟩
      have hfr : Ev (fun k => log_frame.f k ([] : List Int)) (frI []) := frame_ev [] (by simp)
      refine Ev.step (f := fun k => (log_frame.f k ([] : List Int)).bind fun t143 => (if (n : Int) > 262144 then (log_split.j2 k l out (at_ : Int) y (wrap64 ((t143.length : Int) + (n : Int))) true) else (log_split.j2 k l out (at_ : Int) y (wrap64 ((t143.length : Int) + (n : Int))) (decide ((y.length : Int) < (wrap64 ((t143.length : Int) + (n : Int)))))))) (fun k => ?_) ?_
      · simp only [log_split.l1]
        rw [if_neg (by omega)]
      refine Ev.bind hfr ?_
      have hf8 : ((frI []).length : Int) = 8 := by rw [frI_len]; rfl
      have hn0 : n < 4294967296 := by omega
      have hw : wrap64 (8 + (n : Int)) = ((n + 8 : Nat) : Int) := by unfold wrap64; omega
      rw [hf8, hw]
      clear hw hf8
      by_cases cb : 262144 < n
      · have hst := j2_stop l out (at_ : Int) y ((n + 8 : Nat) : Int)
        have hz : okI y = false := by rw [hok, decide_eq_false_iff_not]; omega
        rw [h0 hz] at hst
        exact ev_pos (by omega) hst
      · refine ev_neg (by omega) ?_
        by_cases cl : y.length < n + 8
        · have hd : decide ((y.length : Int) < ((n + 8 : Nat) : Int)) = true := decide_eq_true (by omega)
          rw [hd]
          have hst := j2_stop l out (at_ : Int) y ((n + 8 : Nat) : Int)
          have hz : okI y = false := by rw [hok, decide_eq_false_iff_not]; omega
          rw [h0 hz] at hst
          exact hst
        · have hd : decide ((y.length : Int) < ((n + 8 : Nat) : Int)) = false := decide_eq_false (by omega)
          rw [hd]
          have htl : (y.take (n + 8)).length = n + 8 := by rw [List.length_take]; omega
          have hbt8 : ∀ x ∈ y.take (n + 8), isByte x := fun x hx => hbd x (List.mem_of_mem_take hx)
          have hop := open_ev (y.take (n + 8)) hbt8 (by omega)
          have hsi := sealed_iff (y.take (n + 8)) hbt8 (by omega)
          have htt : (y.take (n + 8)).take ((y.take (n + 8)).length - 4) = y.take (n + 4) := by
            rw [htl, List.take_take]
            congr 1
            omega
          rw [htt] at hsi
          refine j2_go l out (at_ : Int) y (n + 8) r (by omega) ?_
          refine Ev.bind hop ?_
          unfold openL
          rw [if_neg (by omega), htt]
          by_cases cs : sealL (y.take (n + 4)) = y.take (n + 8)
          · have ho2 : okI y = true := by rw [hok, decide_eq_true_iff]; exact ⟨by omega, by omega, by omega, cs⟩
            rw [if_pos (hsi.1 cs)]
            refine ev_pos rfl (ev_pos (by show 4 ≤ ((y.take (n + 4)).length : Int); rw [List.length_take]; omega) (ev_pos (by omega) ?_))
            have hww : wrap64 ((at_ : Int) + ((n + 8 : Nat) : Int)) = ((at_ + (n + 8) : Nat) : Int) := by unfold wrap64; omega
            rw [hww]
            exact h1 ho2
          · rw [if_neg (fun h => cs (hsi.2 h))]
            refine ev_neg (by simp) (ev_now (h0 ?_))
            rw [hok, decide_eq_false_iff_not]
            exact fun h => cs h.2.2.2
theorem split_loop (l : List Int) (hb : ∀ x ∈ l, isByte x) (hn : l.length < 100000000000) : ∀ (d at_ : Nat) (out : List (List Int)), l.length - at_ ≤ d → at_ ≤ l.length → out.length ≤ at_ →
    Ev (fun k => log_split.l0 k l out (at_ : Int)) (out ++ splI (l.length - at_) (l.drop at_), ((at_ + sizeI (splI (l.length - at_) (l.drop at_)) : Nat) : Int)) := by
  intro d
  induction d with
  | zero =>
    intro at_ out hd hat ho
    have h0 : l.length - at_ = 0 := by omega
    rw [h0]
    refine split_round l out at_ hb hn hat (by omega) _ (fun _ => by simp [splI, sizeI]) (fun h => ?_)
    unfold okI at h
    rw [decide_eq_true_iff, List.length_drop] at h
    omega
  | succ d ih =>
    intro at_ out hd hat ho
    refine split_round l out at_ hb hn hat (by omega) _ (fun h => ?_) (fun h => ?_)
    · have e : splI (l.length - at_) (l.drop at_) = [] := by
        cases hh : l.length - at_ with
        | zero => rfl
        | succ m => rw [splI, if_neg (by rw [h]; simp)]
      rw [e]
      simp [sizeI]
    · have h2 := h
      unfold okI at h2
      rw [decide_eq_true_iff, List.length_drop] at h2
      obtain ⟨p1, p2, p3, _⟩ := h2
      obtain ⟨n, hn⟩ : ∃ n : Nat, n = (val4 (l.drop at_)).toNat := ⟨_, rfl⟩
      rw [← hn] at p3 ⊢
      obtain ⟨m, hm⟩ : ∃ m, l.length - at_ = m + 1 := ⟨l.length - at_ - 1, by omega⟩
      have e : splI (l.length - at_) (l.drop at_) = ((l.drop at_).take (n + 4)).drop 4 :: splI (l.length - (at_ + (n + 8))) (l.drop (at_ + (n + 8))) := by
        rw [hm, splI, if_pos h, ← hn, List.drop_drop]
        congr 1
        rw [splI_more _ m (by rw [List.length_drop]; omega), List.length_drop]
      have hl : (((l.drop at_).take (n + 4)).drop 4).length = n := by rw [List.length_drop, List.length_take, List.length_drop]; omega
      have := ih (at_ + (n + 8)) (out ++ [((l.drop at_).take (n + 4)).drop 4]) (by omega) (by omega) (by rw [List.length_append, List.length_singleton]; omega)
      rw [e]
      obtain ⟨S, hS⟩ : ∃ S, S = splI (l.length - (at_ + (n + 8))) (l.drop (at_ + (n + 8))) := ⟨_, rfl⟩
      rw [← hS] at this ⊢
      have hz : sizeI (((l.drop at_).take (n + 4)).drop 4 :: S) = n + 8 + sizeI S := by
        unfold sizeI
        rw [List.map_cons, List.sum_cons, hl]
      rw [hz]
      rw [List.append_assoc, List.singleton_append, Nat.add_assoc] at this
      exact this
theorem split_ev (l : List Int) (hb : ∀ x ∈ l, isByte x) (hn : l.length < 100000000000) : Ev (fun k => log_split.f k l) (splI l.length l, ((sizeI (splI l.length l) : Nat) : Int)) := by
  have := split_loop l hb hn l.length 0 [] (by omega) (by omega) (Nat.le_refl _)
  rw [List.drop_zero, Nat.zero_add] at this
  exact this
/-! ## Their contracts, on bytes -/
theorem R_since {α : Type} {d : Kd α} {e : Nat} {ok : Nat → Prop} {w W : World} {v : Value} {xs : List α} (h : d.R e w W.heap.size ok v xs) : d.R e w W.heap.size (fun k => W.heap.size ≤ k) v xs := Kd.R_mono (Kd.R_bound h) (fun k hk => hk.2.1)
theorem frame_calls (W : World) (A : Option Addr) (c : Nat) (b : By) (hC : CB W A b) (hc : b.length ≤ c) (hb : b.length ≤ 10000000000) :
    Calls Try.prog 36 #[.slice A b.length c] W fun e w' => ∃ v, e = .returned v ∧ RB w' W.heap.size (fun k => W.heap.size ≤ k) v (frB b) ∧ Below W.heap.size W w' := by
  obtain ⟨k, hk⟩ := Ev.rounds (frame_ev (numsL b) (by rw [nums_len]; omega))
  have := log_frame.calls k A c (numsL b) (frI (numsL b)) W hC (by rw [nums_len]; exact hc) hk
  rw [nums_len] at this
  refine this.mono ?_
  rintro e w' ⟨v, rfl, hR, hB⟩
  rw [← nums_frB] at hR
  exact ⟨v, rfl, R_since hR, hB⟩
theorem refFrame_calls (W : World) (A : Option Addr) (c : Nat) (b : By) (hC : CB W A b) (hc : b.length ≤ c) (hb : b.length ≤ 10000000000) :
    Calls Try.prog 16 #[.slice A b.length c] W fun e w' => ∃ v, e = .returned v ∧ RB w' W.heap.size (fun k => W.heap.size ≤ k) v (frB b) ∧ Below W.heap.size W w' := by
  obtain ⟨k, hk⟩ := Ev.rounds (refFrame_ev (numsL b) (by rw [nums_len]; omega))
  have := estafetteref08_Frame.calls k A c (numsL b) (frI (numsL b)) W hC (by rw [nums_len]; exact hc) hk
  rw [nums_len] at this
  refine this.mono ?_
  rintro e w' ⟨v, rfl, hR, hB⟩
  rw [← nums_frB] at hR
  exact ⟨v, rfl, R_since hR, hB⟩
/-- Records in memory, a row of the call's own; what they lead to is only read. -/
abbrev NB (w : World) (ok : Nat → Prop) (v : Value) (rs : List By) : Prop := Kd.N (Kd.slice 5 (Kd.int .u8)) 22 w 0 ok v (rs.map numsL)
/-- Records in memory that are read. -/
abbrev CR (w : World) (A : Option Addr) (rs : List By) : Prop := Kd.C (Kd.slice 5 (Kd.int .u8)) w A (rs.map numsL).length (rs.map numsL)
theorem sizeI_frs (rs : List (List Int)) (h : ∀ x ∈ rs, ∀ y ∈ x, isByte y) : sizeI rs = (frs (rs.map Lib.bytesOf)).length := by
  induction rs with
  | nil => rfl
  | cons x rs ih =>
    have h1 := ih (fun y hy => h y (List.mem_cons_of_mem _ hy))
    have h2 : (Lib.bytesOf x).length = x.length := by rw [← nums_len, nums_bytes x (h x List.mem_cons_self)]
    unfold sizeI at h1 ⊢
    rw [List.map_cons, List.sum_cons, List.map_cons, frs, List.length_append, frB_len, h1, h2]
theorem split_calls (W : World) (A : Option Addr) (c : Nat) (b : By) (hC : CB W A b) (hc : b.length ≤ c) (hb : b.length < 100000000000) :
    Calls Try.prog 32 #[.slice A b.length c] W fun e w' => ∃ v, e = .returned (.tuple #[v, .int .i64 (frs (splB b)).length]) ∧ NB w' (fun k => W.heap.size ≤ k) v (splB b) ∧ Below W.heap.size W w' := by
  have hb2 := nums_isByte b
  obtain ⟨k, hk⟩ := Ev.rounds (split_ev (numsL b) hb2 (by rw [nums_len]; exact hb))
  obtain ⟨r, hr1, hr2⟩ := splI_front (numsL b).length (numsL b) hb2
  have := log_split.calls k A c (numsL b) _ _ W hC (by rw [nums_len]; exact hc) hk
  rw [nums_len] at this hr2
  refine this.mono ?_
  rintro e w' ⟨v, rfl, hR, hB⟩
  have e1 : (splB b).map numsL = splI b.length (numsL b) := by
    unfold splB
    rw [List.map_map]
    conv => rhs; rw [← List.map_id (splI b.length (numsL b))]
    exact List.map_congr_left fun x hx => nums_bytes x (hr2 x hx).2
  refine ⟨v, ?_, ?_, hB⟩
  · rw [sizeI_frs _ (fun x hx => (hr2 x hx).2)]
    rfl
  · show Kd.N _ _ _ _ _ _ ((splB b).map numsL)
    rw [e1]
    exact Kd.N_lower hR (Nat.zero_le _)
theorem same_calls (W : World) (A B : Option Addr) (c d : Nat) (a b : By) (hA : CB W A a) (hB : CB W B b) (hc : a.length ≤ c) (hd : b.length ≤ d) (hl : a.length ≤ 10000000000) :
    Calls Try.prog 19 #[.slice A a.length c, .slice B b.length d] W fun e w' => e = .returned (.bool (decide (a = b))) ∧ Drawn0 W w' := by
  obtain ⟨k, hk⟩ := Ev.rounds (same_ev (numsL a) (numsL b) (by rw [nums_len]; omega))
  have := estafetteref08_Same.calls k A c (numsL a) B d (numsL b) _ W hA (by rw [nums_len]; exact hc) hB (by rw [nums_len]; exact hd) hk
  rw [nums_len, nums_len] at this
  have e : decide (numsL a = numsL b) = decide (a = b) := by
    rw [decide_eq_decide]
    exact ⟨nums_inj, fun h => by rw [h]⟩
  rw [e] at this
  exact this
theorem rd_L1_at (rs : List By) (i : Nat) (h : i < rs.length) : rd_L1 (rs.map numsL) (i : Int) = numsL rs[i] := by
  unfold rd_L1
  rw [Int.toNat_natCast, List.getD_eq_getElem?_getD, List.getElem?_map, List.getElem?_eq_getElem h]
  rfl
theorem all_loop (a b : List By) (hl : a.length = b.length) (hn : a.length < 10000000000) (hs : ∀ x ∈ a, x.length ≤ 10000000000) : ∀ (d i : Nat), a.length - i ≤ d → i ≤ a.length →
    Ev (fun k => estafetteref08_SameAll.l0 k (a.map numsL) (b.map numsL) (i : Int)) (decide (a.drop i = b.drop i)) := by
  intro d
  induction d with
  | zero =>
    intro i hd hi
    have h1 : i = a.length := by omega
    rw [List.drop_eq_nil_of_le (by omega : a.length ≤ i), List.drop_eq_nil_of_le (by omega : b.length ≤ i)]
    exact Ev.step (f := fun _ => some true) (fun k => by simp only [estafetteref08_SameAll.l0]; rw [if_neg (by rw [List.length_map]; omega)]) (ev_now (by simp))
  | succ d ih =>
    intro i hd hi
    by_cases hlt : i < a.length
    · have hlb : i < b.length := by omega
      have hsm := same_ev (numsL a[i]) (numsL b[i]) (by rw [nums_len]; have := hs _ (List.getElem_mem hlt); omega)
      have hw : wrap64 ((i : Int) + 1) = ((i + 1 : Nat) : Int) := by unfold wrap64; omega
      refine Ev.step (f := fun k => (estafetteref08_Same.f k (numsL a[i]) (numsL b[i])).bind fun t => if t = true then estafetteref08_SameAll.l0 k (a.map numsL) (b.map numsL) ((i + 1 : Nat) : Int) else some false) (fun k => ?_) ?_
      · simp only [estafetteref08_SameAll.l0]
        rw [if_pos (by rw [List.length_map]; omega), if_pos (by omega), if_pos (by rw [List.length_map]; omega), rd_L1_at a i hlt, rd_L1_at b i hlb, hw]
      clear hw
      refine Ev.bind hsm ?_
      have e : decide (a.drop i = b.drop i) = (decide (numsL a[i] = numsL b[i]) && decide (a.drop (i + 1) = b.drop (i + 1))) := by
        rw [List.drop_eq_getElem_cons hlt, List.drop_eq_getElem_cons hlb, Bool.eq_iff_iff, Bool.and_eq_true, decide_eq_true_iff, decide_eq_true_iff, decide_eq_true_iff, List.cons.injEq]
        exact ⟨fun h => ⟨by rw [h.1], h.2⟩, fun h => ⟨nums_inj h.1, h.2⟩⟩
      rw [e]
      cases hc : decide (numsL a[i] = numsL b[i]) with
      | true => exact ev_pos rfl (by rw [Bool.true_and]; exact ih (i + 1) (by omega) (by omega))
      | false => exact ev_neg (by simp) (ev_now (by rw [Bool.false_and]))
    · have h1 : i = a.length := by omega
      rw [List.drop_eq_nil_of_le (by omega : a.length ≤ i), List.drop_eq_nil_of_le (by omega : b.length ≤ i)]
      exact Ev.step (f := fun _ => some true) (fun k => by simp only [estafetteref08_SameAll.l0]; rw [if_neg (by rw [List.length_map]; omega)]) (ev_now (by simp))
theorem sameAll_calls (W : World) (A B : Option Addr) (c d : Nat) (a b : List By) (hA : CR W A a) (hB : CR W B b) (hc : a.length ≤ c) (hd : b.length ≤ d) (hn : a.length < 10000000000) (hs : ∀ x ∈ a, x.length ≤ 10000000000) :
    Calls Try.prog 14 #[.slice A a.length c, .slice B b.length d] W fun e w' => e = .returned (.bool (decide (a = b))) ∧ Drawn0 W w' := by
  have hev : Ev (fun k => estafetteref08_SameAll.f k (a.map numsL) (b.map numsL)) (decide (a = b)) := by
    unfold estafetteref08_SameAll.f
    by_cases hl : a.length = b.length
    · refine ev_pos (by rw [List.length_map, List.length_map]; omega) ?_
      have := all_loop a b hl hn hs a.length 0 (by omega) (by omega)
      rw [List.drop_zero, List.drop_zero] at this
      exact this
    · exact ev_neg (by rw [List.length_map, List.length_map]; omega) (ev_now (by symm; rw [decide_eq_false_iff_not]; intro e; exact hl (by rw [e])))
  obtain ⟨k, hk⟩ := Ev.rounds hev
  have := estafetteref08_SameAll.calls k A c (a.map numsL) B d (b.map numsL) _ W hA (by rw [List.length_map]; exact hc) hB (by rw [List.length_map]; exact hd) hk
  rw [List.length_map, List.length_map] at this
  exact this
/-! ## The log's name -/
theorem logB_byte (c : UInt8) : logB c = decide (97 ≤ (c.toNat : Int) ∧ (c.toNat : Int) ≤ 122) := by
  unfold logB
  rw [Bool.eq_iff_iff]
  simp only [Bool.and_eq_true, decide_eq_true_eq, UInt8.le_iff_toNat_le]
  simp
  omega
theorem log_l0 (s : ByteArray) (hs : s.size ≤ 9223372036854775807) : ∀ (n k j : Nat), s.size - j ≤ n → n < k → j ≤ s.size →
    PA.log_name.l0 k s (s.size : Int) (j : Int) = some ((s.data.toList.drop j).all logB && !(s.size == 0) && decide (s.size ≤ 20)) := by
  have last : ∀ k, PA.log_name.l0 (k + 1) s (s.size : Int) (s.size : Int) = some ((s.data.toList.drop s.size).all logB && !(s.size == 0) && decide (s.size ≤ 20)) := fun k => by
    have hd : s.data.toList.drop s.size = [] := List.drop_eq_nil_of_le (by rw [data_length]; exact Nat.le_refl _)
    rw [PA.log_name.l0, if_neg (by omega), hd]
    by_cases e : s.size = 0
    · have h0 : s.toList = [] := by rw [Lib.toList_data]; exact List.eq_nil_of_length_eq_zero (by rw [data_length]; exact e)
      rw [if_pos h0]
      simp [e]
    · have h0 : ¬ s.toList = [] := fun h => e (by rw [Lib.toList_data] at h; have := data_length s; rw [h] at this; exact this.symm)
      rw [if_neg h0]
      have h1 : (s.size == 0) = false := by simpa using e
      rw [h1]
      simp only [List.all_nil, Bool.not_false, Bool.true_and, Bool.and_self]
      congr 1
      rw [decide_eq_decide]
      omega
  intro n
  induction n with
  | zero =>
    intro k j hn hk hj
    obtain ⟨k, rfl⟩ : ∃ k', k = k' + 1 := ⟨k - 1, by omega⟩
    obtain rfl : j = s.size := by omega
    exact last k
  | succ n ih =>
    intro k j hn hk hj
    obtain ⟨k, rfl⟩ : ∃ k', k = k' + 1 := ⟨k - 1, by omega⟩
    by_cases hlt : j < s.size
    · have hjl : j < s.data.toList.length := by rw [data_length]; exact hlt
      have hw : wrap64 ((j : Int) + 1) = ((j + 1 : Nat) : Int) := by rw [Go.IntWalk.wrap64_in _ (by omega)]; omega
      have ih' := ih k (j + 1) (by omega) (by omega) (by omega)
      rw [PA.log_name.l0, if_pos (by omega), if_pos (by omega), if_pos (by omega), hw, ih', List.drop_eq_getElem_cons hjl, List.all_cons, logB_byte, bt_data s j hjl]
      clear hw ih'
      obtain ⟨c, hc⟩ : ∃ c, c = ((s.data.toList[j]).toNat : Int) := ⟨_, rfl⟩
      rw [← hc]
      by_cases h1 : c < 97
      · have hd : decide (97 ≤ c ∧ c ≤ 122) = false := decide_eq_false (by omega)
        rw [if_pos h1, hd]
        simp
      · rw [if_neg h1]
        by_cases h2 : c > 122
        · have hd : decide (97 ≤ c ∧ c ≤ 122) = false := decide_eq_false (by omega)
          rw [if_pos h2, hd]
          simp
        · have hd : decide (97 ≤ c ∧ c ≤ 122) = true := decide_eq_true (by omega)
          rw [if_neg h2, hd, Bool.true_and]
    · obtain rfl : j = s.size := by omega
      exact last k
theorem logName_calls (s : ByteArray) (hs : s.size ≤ maxLen) (w : World) : Calls Try.prog 30 #[.string s] w fun e w' => e = .returned (.bool (logGood s)) ∧ Drawn0 w w' := by
  refine PA.log_name.calls (s.size + 1) s _ w ?_
  have := log_l0 s (by unfold maxLen at hs; omega) s.size (s.size + 1) 0 (by omega) (by omega) (by omega)
  rw [List.drop_zero] at this
  exact this
end Go.Proofs.Ytipclnniaenciaa.Hand
