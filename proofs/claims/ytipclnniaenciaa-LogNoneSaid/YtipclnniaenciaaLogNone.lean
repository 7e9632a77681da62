/- LogNone, walked by hand. -/
import Derived.Test.YtipclnniaenciaaLogLaw
namespace Go.Proofs.Ytipclnniaenciaa.Hand
open Go.RowKit Go.Maps Go.Proofs.YtipclnniaenciaaW.PrintWords Go.Proofs.YtipclnniaenciaaW.PrintLast Go.Proofs.YtipclnniaenciaaW.PrintMore
set_option linter.unusedVariables false
set_option linter.unusedSimpArgs false
def okN (s : ByteArray) (i : Nat) : Bool := decide (1 ≤ s.size ∧ s.size ≤ 20) && (s.data.toList.take i).all logB
theorem okN_end (s : ByteArray) : okN s s.size = logGood s := by
  unfold okN logGood
  rw [List.take_of_length_le (by rw [data_length]; exact Nat.le_refl _), Bool.and_comm, Bool.and_assoc]
  congr 1
  rw [Bool.eq_iff_iff]
  simp only [Bool.and_eq_true, decide_eq_true_eq, Bool.not_eq_true', beq_eq_false_iff_ne]
  omega
theorem okN_step (s : ByteArray) (i : Nat) (hi : i < s.data.toList.length) : okN s (i + 1) = (okN s i && logB (s.data.toList[i])) := by
  unfold okN
  rw [List.take_succ_eq_append_getElem hi, List.all_append, Bool.and_assoc]
  simp
theorem no_bad (s : ByteArray) (h : logGood s = false) : opR (newS 0) s = 1 ∧ opS (newS 0) s = newS 0 := by
  unfold opR opS
  rw [if_pos h, if_pos h]
  exact ⟨rfl, rfl⟩
theorem good_of (s : ByteArray) (h0 : 1 ≤ s.size) (h : s.size ≤ 32) (hc : s.data.toList.all goodB = true) : goodName s = true := by
  unfold goodName
  rw [hc, decide_eq_true h, beq_eq_false_iff_ne.2 (by omega)]
  rfl
theorem all_good (s : ByteArray) (h : logGood s = true) : s.data.toList.all goodB = true ∧ (newN s).data.toList.all goodB = true := by
  have h1 : s.data.toList.all goodB = true := by
    unfold logGood at h
    rw [Bool.and_eq_true, Bool.and_eq_true, List.all_eq_true] at h
    rw [List.all_eq_true]
    intro x hx
    have := h.1.1 x hx
    unfold goodB
    unfold logB at this
    rw [this]
    rfl
  refine ⟨h1, ?_⟩
  have e : (newN s).data.toList = s.data.toList ++ dotNew.data.toList := by
    unfold newN
    rw [ByteArray.data_append, Array.toList_append]
  rw [e, List.all_append, h1]
  decide
theorem no_good (s : ByteArray) (h : logGood s = true) : opR (newS 0) s = 0 ∧ opS (newS 0) s = newS 0 ∧ readB (removeS (newS 0) (newN s)) s = [] := by
  have h2 := logGood_size h
  have h1 : 1 ≤ s.size := by
    unfold logGood at h
    rw [Bool.and_eq_true, Bool.and_eq_true, Bool.not_eq_true', beq_eq_false_iff_ne] at h
    have := h.1.2
    omega
  have g1 := good_of s h1 (by omega) (all_good s h).1
  have g2 := good_of (newN s) (by rw [newN_size]; omega) (by rw [newN_size]; omega) (all_good s h).2
  have e1 : removeR (newS 0) (newN s) = 3 := by unfold removeR; rw [g2]; rfl
  have e2 : removeS (newS 0) (newN s) = newS 0 := by unfold removeS; rw [g2]; rfl
  have e3 : readR (newS 0) s = 3 := by unfold readR; rw [g1]; rfl
  have e4 : readB (newS 0) s = [] := by unfold readB; rw [g1]; rfl
  unfold opR opS
  rw [e1, e2, e3, e4, if_neg (by rw [h]; simp), if_neg (by decide), if_neg (by decide), if_neg (by decide), if_neg (by rw [h]; simp), if_neg (by decide), if_neg (by decide), if_neg (by decide)]
  exact ⟨rfl, rfl, rfl⟩
theorem DLaw.opno {W w : World} {A : Nat → Prop} {p : Nat} {st : DSt} (h : DLaw W w A p st) (hok : st.Ok) (s : ByteArray) (hg : logGood s = false) (hs : s.size ≤ maxLen) (hR : opR st s = 1) (hsz : (readB (removeS st (newN s)) s).length ≤ 1000000000 ∧ (splB (readB (removeS st (newN s)) s)).length ≤ 100000000) :
    Calls Try.prog 12 #[.pointer (some ⟨p, 0, none⟩), .string s] w fun e w' => e = .returned (.tuple #[.pointer none, .int .i64 1]) ∧ Below W.heap.size W w' := by
  refine (open_calls w A p st s h.1 hok (fun h => by rw [hg] at h; cases h) hsz hs).mono ?_
  rintro e w' ⟨A', hS, ⟨h0, rfl⟩ | ⟨h0, _⟩⟩
  · exact ⟨by rw [hR], (hS.law h).2.2⟩
  · rw [hR] at h0; cases h0
theorem new_read (c : Int) (s : ByteArray) : readB (removeS (newS c) (newN s)) s = [] := by
  have e2 : removeS (newS c) (newN s) = newS c := by
    unfold removeS
    cases goodName (newN s) <;> rfl
  rw [e2]
  unfold readB
  cases goodName s <;> rfl
set_option maxRecDepth 100000 in
set_option maxHeartbeats 16000000 in
theorem LogNone_calls (w : World) (s : ByteArray) (Ab : Option Addr) (n c : Nat) (hs : s.size ≤ maxLen) : Calls Try.prog 5 #[.string s, .slice Ab n c] w fun e w' => e = .returned (.bool true) ∧ Below w.heap.size w w' := by
  have HON := Aside0.mk (open_nil w nA)
  have hsl : s.size ≤ 9223372036854775807 := by unfold maxLen at hs; omega
  have HSL := Aside0.mk hs
  clear hs
  go_enter Try.func5, Try.ntmps5
  go_wp2_with fail
  refine HON.out.mono ?_
  rintro e w1 ⟨rfl, rfl⟩
  by_cases h1 : (1 : Int) ≤ s.size
  · by_cases h2 : (s.size : Int) ≤ 20
    · go_wp2
      go_loop [8, 9] (fun v8 v9 => ∃ i : Nat, v9 = .int .i64 i ∧ v8 = .bool (okN s i) ∧ i ≤ s.size) (fun _ v9 => s.size - (intOf v9).toNat)
      case atStart =>
        refine ⟨0, rfl, ?_, Nat.zero_le _⟩
        congr 1
        unfold okN
        rw [Bool.eq_iff_iff]
        simp
        omega
      clear h1 h2
      case round =>
        obtain ⟨i, rfl, rfl, hi⟩ := hrel
        by_cases hlt : i < s.size
        · have HK := Aside0.mk (okN_step s i (by rw [data_length]; exact hlt))
          obtain ⟨k, hk⟩ : ∃ k, k = okN s i := ⟨_, rfl⟩
          rw [← hk] at HK ⊢
          clear hk
          cases k with
          | false =>
            go_wp2
            go_round
            case rel => exact ⟨i + 1, by go_num, by rw [HK.out]; rfl, hlt⟩
            case measure => simp [intOf]; omega
          | true =>
            have HLB := Aside0.mk (logB_byte (s.data.toList[i]'(by rw [data_length]; exact hlt)))
            have HSI := Aside0.mk (show (s.data.toList[i]'(by rw [data_length]; exact hlt)) = s[i] from by rw [Array.getElem_toList]; rfl)
            by_cases ha : (97 : Int) ≤ s[i].toNat
            · have HA := Aside0.mk ha
              go_wp2
              go_round
              case rel => exact ⟨i + 1, by go_num, by rw [HK.out, HLB.out, HSI.out, Bool.true_and]; congr 1; rw [decide_eq_decide]; exact ⟨fun h => ⟨HA.out, h⟩, fun h => h.2⟩, hlt⟩
              case measure => simp [intOf]; omega
            · have HA := Aside0.mk ha
              go_wp2
              go_round
              case rel => exact ⟨i + 1, by go_num, by rw [HK.out, HLB.out, HSI.out, Bool.true_and]; congr 1; symm; rw [decide_eq_false_iff_not]; exact fun h => HA.out h.1, hlt⟩
              case measure => simp [intOf]; omega
        · obtain rfl : i = s.size := by omega
          rw [okN_end]
          have HNW := Aside0.mk (fun W => New_law W 0)
          cases hg : logGood s with
          | true =>
            have HGD := Aside0.mk (no_good s hg)
            have HOP := Aside0.mk (fun (W w : World) (A : Nat → Prop) (p : Nat) (h : DLaw W w A p (newS 0)) => h.opn (newS_ok 0) s (fun _ => by rw [new_read]; exact newS_fit 0 (by decide) _ _ (by decide) (by decide)) (by rw [new_read]; decide) HSL.out (no_good s hg).1)
            clear hg
            go_wp2_with fail
            refine (HNW.out _).mono ?_
            rintro e w2 ⟨p, A2, rfl, hD2⟩
            have HD2 := Aside0.mk hD2
            clear hD2
            go_wp2_with fail
            refine (HOP.out _ _ _ _ HD2.out).mono ?_
            rintro e w3 ⟨q, A3, B3, rfl, hL3, _, _, _⟩
            have HL3 := Aside0.mk hL3
            clear hL3 HNW HOP
            go_wp2_with fail
            refine (answers_calls _).mono ?_
            rintro e w4 ⟨rfl, hb4⟩
            have HB4 := Aside0.mk hb4
            clear hb4
            go_wp2_with fail
            refine (lapp_nil _ Ab n c).mono ?_
            rintro e w5 ⟨rfl, hb5⟩
            have HB5 := Aside0.mk hb5
            clear hb5
            go_wp2_with fail
            refine (lcom_nil _ none 0 0).mono ?_
            rintro e w6 ⟨rfl, hw6⟩
            subst hw6
            go_wp2_with fail
            refine (recs_nil _).mono ?_
            rintro e w7 ⟨rfl, hw7⟩
            subst hw7
            go_wp2
            go_ret
            exact ⟨rfl, ((HL3.out.below HB4.out).below HB5.out).1.2.2⟩
          | false =>
            have HOP := Aside0.mk (fun (W w : World) (A : Nat → Prop) (p : Nat) (h : DLaw W w A p (newS 0)) => h.opno (newS_ok 0) s hg HSL.out (no_bad s hg).1 (by rw [new_read]; decide))
            clear hg
            go_wp2_with fail
            refine (HNW.out _).mono ?_
            rintro e w2 ⟨p, A2, rfl, hD2⟩
            have HD2 := Aside0.mk hD2
            clear hD2
            go_wp2_with fail
            refine (HOP.out _ _ _ _ HD2.out).mono ?_
            rintro e w3 ⟨rfl, hL3⟩
            have HL3 := Aside0.mk hL3
            clear hL3 HNW HOP
            go_wp2_with fail
            refine (answers_calls _).mono ?_
            rintro e w4 ⟨rfl, hb4⟩
            have HB4 := Aside0.mk hb4
            clear hb4
            go_wp2_with fail
            refine (lapp_nil _ Ab n c).mono ?_
            rintro e w5 ⟨rfl, hb5⟩
            have HB5 := Aside0.mk hb5
            clear hb5
            go_wp2_with fail
            refine (lcom_nil _ none 0 0).mono ?_
            rintro e w6 ⟨rfl, hw6⟩
            subst hw6
            go_wp2_with fail
            refine (recs_nil _).mono ?_
            rintro e w7 ⟨rfl, hw7⟩
            subst hw7
            go_wp2
            go_ret
            exact ⟨rfl, (HL3.out.trans (HB4.out.mono HL3.out.size)).trans (HB5.out.mono (Nat.le_trans HL3.out.size HB4.out.size))⟩
    · go_wp2
      go_loop [8, 9] (fun v8 v9 => ∃ i : Nat, v9 = .int .i64 i ∧ v8 = .bool (okN s i) ∧ i ≤ s.size) (fun _ v9 => s.size - (intOf v9).toNat)
      case atStart =>
        refine ⟨0, rfl, ?_, Nat.zero_le _⟩
        congr 1
        unfold okN
        rw [Bool.eq_iff_iff]
        simp
        omega
      clear h1 h2
      case round =>
        obtain ⟨i, rfl, rfl, hi⟩ := hrel
        by_cases hlt : i < s.size
        · have HK := Aside0.mk (okN_step s i (by rw [data_length]; exact hlt))
          obtain ⟨k, hk⟩ : ∃ k, k = okN s i := ⟨_, rfl⟩
          rw [← hk] at HK ⊢
          clear hk
          cases k with
          | false =>
            go_wp2
            go_round
            case rel => exact ⟨i + 1, by go_num, by rw [HK.out]; rfl, hlt⟩
            case measure => simp [intOf]; omega
          | true =>
            have HLB := Aside0.mk (logB_byte (s.data.toList[i]'(by rw [data_length]; exact hlt)))
            have HSI := Aside0.mk (show (s.data.toList[i]'(by rw [data_length]; exact hlt)) = s[i] from by rw [Array.getElem_toList]; rfl)
            by_cases ha : (97 : Int) ≤ s[i].toNat
            · have HA := Aside0.mk ha
              go_wp2
              go_round
              case rel => exact ⟨i + 1, by go_num, by rw [HK.out, HLB.out, HSI.out, Bool.true_and]; congr 1; rw [decide_eq_decide]; exact ⟨fun h => ⟨HA.out, h⟩, fun h => h.2⟩, hlt⟩
              case measure => simp [intOf]; omega
            · have HA := Aside0.mk ha
              go_wp2
              go_round
              case rel => exact ⟨i + 1, by go_num, by rw [HK.out, HLB.out, HSI.out, Bool.true_and]; congr 1; symm; rw [decide_eq_false_iff_not]; exact fun h => HA.out h.1, hlt⟩
              case measure => simp [intOf]; omega
        · obtain rfl : i = s.size := by omega
          rw [okN_end]
          have HNW := Aside0.mk (fun W => New_law W 0)
          cases hg : logGood s with
          | true =>
            have HGD := Aside0.mk (no_good s hg)
            have HOP := Aside0.mk (fun (W w : World) (A : Nat → Prop) (p : Nat) (h : DLaw W w A p (newS 0)) => h.opn (newS_ok 0) s (fun _ => by rw [new_read]; exact newS_fit 0 (by decide) _ _ (by decide) (by decide)) (by rw [new_read]; decide) HSL.out (no_good s hg).1)
            clear hg
            go_wp2_with fail
            refine (HNW.out _).mono ?_
            rintro e w2 ⟨p, A2, rfl, hD2⟩
            have HD2 := Aside0.mk hD2
            clear hD2
            go_wp2_with fail
            refine (HOP.out _ _ _ _ HD2.out).mono ?_
            rintro e w3 ⟨q, A3, B3, rfl, hL3, _, _, _⟩
            have HL3 := Aside0.mk hL3
            clear hL3 HNW HOP
            go_wp2_with fail
            refine (answers_calls _).mono ?_
            rintro e w4 ⟨rfl, hb4⟩
            have HB4 := Aside0.mk hb4
            clear hb4
            go_wp2_with fail
            refine (lapp_nil _ Ab n c).mono ?_
            rintro e w5 ⟨rfl, hb5⟩
            have HB5 := Aside0.mk hb5
            clear hb5
            go_wp2_with fail
            refine (lcom_nil _ none 0 0).mono ?_
            rintro e w6 ⟨rfl, hw6⟩
            subst hw6
            go_wp2_with fail
            refine (recs_nil _).mono ?_
            rintro e w7 ⟨rfl, hw7⟩
            subst hw7
            go_wp2
            go_ret
            exact ⟨rfl, ((HL3.out.below HB4.out).below HB5.out).1.2.2⟩
          | false =>
            have HOP := Aside0.mk (fun (W w : World) (A : Nat → Prop) (p : Nat) (h : DLaw W w A p (newS 0)) => h.opno (newS_ok 0) s hg HSL.out (no_bad s hg).1 (by rw [new_read]; decide))
            clear hg
            go_wp2_with fail
            refine (HNW.out _).mono ?_
            rintro e w2 ⟨p, A2, rfl, hD2⟩
            have HD2 := Aside0.mk hD2
            clear hD2
            go_wp2_with fail
            refine (HOP.out _ _ _ _ HD2.out).mono ?_
            rintro e w3 ⟨rfl, hL3⟩
            have HL3 := Aside0.mk hL3
            clear hL3 HNW HOP
            go_wp2_with fail
            refine (answers_calls _).mono ?_
            rintro e w4 ⟨rfl, hb4⟩
            have HB4 := Aside0.mk hb4
            clear hb4
            go_wp2_with fail
            refine (lapp_nil _ Ab n c).mono ?_
            rintro e w5 ⟨rfl, hb5⟩
            have HB5 := Aside0.mk hb5
            clear hb5
            go_wp2_with fail
            refine (lcom_nil _ none 0 0).mono ?_
            rintro e w6 ⟨rfl, hw6⟩
            subst hw6
            go_wp2_with fail
            refine (recs_nil _).mono ?_
            rintro e w7 ⟨rfl, hw7⟩
            subst hw7
            go_wp2
            go_ret
            exact ⟨rfl, (HL3.out.trans (HB4.out.mono HL3.out.size)).trans (HB5.out.mono (Nat.le_trans HL3.out.size HB4.out.size))⟩
  · go_wp2
    go_loop [8, 9] (fun v8 v9 => ∃ i : Nat, v9 = .int .i64 i ∧ v8 = .bool (okN s i) ∧ i ≤ s.size) (fun _ v9 => s.size - (intOf v9).toNat)
    case atStart =>
      refine ⟨0, rfl, ?_, Nat.zero_le _⟩
      congr 1
      unfold okN
      rw [Bool.eq_iff_iff]
      simp
      omega
    clear h1
    case round =>
      obtain ⟨i, rfl, rfl, hi⟩ := hrel
      by_cases hlt : i < s.size
      · have HK := Aside0.mk (okN_step s i (by rw [data_length]; exact hlt))
        obtain ⟨k, hk⟩ : ∃ k, k = okN s i := ⟨_, rfl⟩
        rw [← hk] at HK ⊢
        clear hk
        cases k with
        | false =>
          go_wp2
          go_round
          case rel => exact ⟨i + 1, by go_num, by rw [HK.out]; rfl, hlt⟩
          case measure => simp [intOf]; omega
        | true =>
          have HLB := Aside0.mk (logB_byte (s.data.toList[i]'(by rw [data_length]; exact hlt)))
          have HSI := Aside0.mk (show (s.data.toList[i]'(by rw [data_length]; exact hlt)) = s[i] from by rw [Array.getElem_toList]; rfl)
          by_cases ha : (97 : Int) ≤ s[i].toNat
          · have HA := Aside0.mk ha
            go_wp2
            go_round
            case rel => exact ⟨i + 1, by go_num, by rw [HK.out, HLB.out, HSI.out, Bool.true_and]; congr 1; rw [decide_eq_decide]; exact ⟨fun h => ⟨HA.out, h⟩, fun h => h.2⟩, hlt⟩
            case measure => simp [intOf]; omega
          · have HA := Aside0.mk ha
            go_wp2
            go_round
            case rel => exact ⟨i + 1, by go_num, by rw [HK.out, HLB.out, HSI.out, Bool.true_and]; congr 1; symm; rw [decide_eq_false_iff_not]; exact fun h => HA.out h.1, hlt⟩
            case measure => simp [intOf]; omega
      · obtain rfl : i = s.size := by omega
        rw [okN_end]
        have HNW := Aside0.mk (fun W => New_law W 0)
        cases hg : logGood s with
        | true =>
          have HGD := Aside0.mk (no_good s hg)
          have HOP := Aside0.mk (fun (W w : World) (A : Nat → Prop) (p : Nat) (h : DLaw W w A p (newS 0)) => h.opn (newS_ok 0) s (fun _ => by rw [new_read]; exact newS_fit 0 (by decide) _ _ (by decide) (by decide)) (by rw [new_read]; decide) HSL.out (no_good s hg).1)
          clear hg
          go_wp2_with fail
          refine (HNW.out _).mono ?_
          rintro e w2 ⟨p, A2, rfl, hD2⟩
          have HD2 := Aside0.mk hD2
          clear hD2
          go_wp2_with fail
          refine (HOP.out _ _ _ _ HD2.out).mono ?_
          rintro e w3 ⟨q, A3, B3, rfl, hL3, _, _, _⟩
          have HL3 := Aside0.mk hL3
          clear hL3 HNW HOP
          go_wp2_with fail
          refine (answers_calls _).mono ?_
          rintro e w4 ⟨rfl, hb4⟩
          have HB4 := Aside0.mk hb4
          clear hb4
          go_wp2_with fail
          refine (lapp_nil _ Ab n c).mono ?_
          rintro e w5 ⟨rfl, hb5⟩
          have HB5 := Aside0.mk hb5
          clear hb5
          go_wp2_with fail
          refine (lcom_nil _ none 0 0).mono ?_
          rintro e w6 ⟨rfl, hw6⟩
          subst hw6
          go_wp2_with fail
          refine (recs_nil _).mono ?_
          rintro e w7 ⟨rfl, hw7⟩
          subst hw7
          go_wp2
          go_ret
          exact ⟨rfl, ((HL3.out.below HB4.out).below HB5.out).1.2.2⟩
        | false =>
          have HOP := Aside0.mk (fun (W w : World) (A : Nat → Prop) (p : Nat) (h : DLaw W w A p (newS 0)) => h.opno (newS_ok 0) s hg HSL.out (no_bad s hg).1 (by rw [new_read]; decide))
          clear hg
          go_wp2_with fail
          refine (HNW.out _).mono ?_
          rintro e w2 ⟨p, A2, rfl, hD2⟩
          have HD2 := Aside0.mk hD2
          clear hD2
          go_wp2_with fail
          refine (HOP.out _ _ _ _ HD2.out).mono ?_
          rintro e w3 ⟨rfl, hL3⟩
          have HL3 := Aside0.mk hL3
          clear hL3 HNW HOP
          go_wp2_with fail
          refine (answers_calls _).mono ?_
          rintro e w4 ⟨rfl, hb4⟩
          have HB4 := Aside0.mk hb4
          clear hb4
          go_wp2_with fail
          refine (lapp_nil _ Ab n c).mono ?_
          rintro e w5 ⟨rfl, hb5⟩
          have HB5 := Aside0.mk hb5
          clear hb5
          go_wp2_with fail
          refine (lcom_nil _ none 0 0).mono ?_
          rintro e w6 ⟨rfl, hw6⟩
          subst hw6
          go_wp2_with fail
          refine (recs_nil _).mono ?_
          rintro e w7 ⟨rfl, hw7⟩
          subst hw7
          go_wp2
          go_ret
          exact ⟨rfl, (HL3.out.trans (HB4.out.mono HL3.out.size)).trans (HB5.out.mono (Nat.le_trans HL3.out.size HB4.out.size))⟩
end Go.Proofs.Ytipclnniaenciaa.Hand
