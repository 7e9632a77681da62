/- DueAgain, walked by hand. -/
import Derived.Test.YtebmhjiogomheaaDueOrd
namespace Go.Proofs.Ytebmhjiogomheaa.Hand
open Go.RowKit Go.Proofs.YtebmhjiogomheaaW.PrintWords Go.Proofs.YtebmhjiogomheaaW.PrintLast Go.Proofs.YtebmhjiogomheaaW.PrintMore Go.Proofs.Ytebmhjiogomheaa.PA
set_option linter.unusedVariables false
set_option linter.unusedSimpArgs false
theorem DL.first {W w : World} {F : Nat → Prop} {q : Nat} {p : List En} (h : DL W w F q p) (now : Int) (hl : p.length ≤ 100000) : Calls Try.prog 14 #[.pointer (some ⟨q, 0, none⟩), .int .i64 now] w (FirstPost p now w) := first_calls w F q p h.1 now hl
/-- What All hands back, and what stays. -/
def AllL (W w : World) (F : Nat → Prop) (q : Nat) (p : List En) (e : Ending) (w' : World) : Prop := ∃ A c, e = .returned (.slice A p.length c) ∧ p.length ≤ c ∧ Kd.C (Kd.int .i64) w' A p.length ((sortE p).map Prod.fst) ∧ DL W w' F q p ∧ Below w.heap.size w w'
theorem DL.all {W w : World} {F : Nat → Prop} {q : Nat} {p : List En} (h : DL W w F q p) (hl : p.length ≤ 100000) : Calls Try.prog 17 #[.pointer (some ⟨q, 0, none⟩)] w (AllL W w F q p) := by
  refine (all_calls w F q p h.1 hl).mono ?_
  rintro e w' ⟨v, rfl, ho, hb⟩
  obtain ⟨A, c, rfl, hR⟩ := own_reads ho
  have hn : ((sortE p).map Prod.fst).length = p.length := by rw [List.length_map, sortE_len]
  have hcap : ((sortE p).map Prod.fst).length ≤ c := by
    rcases ho.2 with ⟨e1, e2⟩ | ⟨g, cap, cur, e1, _, _, e2, _⟩
    · rw [e2]; exact Nat.zero_le _
    · injection e1 with _ _ e3
      rw [e3]; exact e2
  rw [hn] at hR hcap
  exact ⟨A, c, by rw [hn], hcap, Kd.C_of_reads hR, h.below hb, hb⟩
/-- One id, set again and again. -/
def agP (id : Int) (l : List Int) (i : Nat) : List En := if i = 0 then [] else [(id, l.getD (i - 1) 0)]
theorem agP_step (id : Int) (l : List Int) (i : Nat) (hi : i < l.length) : setF (agP id l i) id l[i] = agP id l (i + 1) := by
  unfold agP
  rw [if_neg (by omega : ¬ i + 1 = 0), Nat.add_sub_cancel, getD_at l i hi]
  split
  · exact set_none _ _
  · exact set_one _ _ _
theorem agP_len (id : Int) (l : List Int) (i : Nat) : (agP id l i).length ≤ 1 := by
  unfold agP
  split <;> simp
theorem agP_end (id : Int) (l : List Int) (h : 0 < l.length) : agP id l l.length = [(id, l.getD (l.length - 1) 0)] := if_neg (by omega)
set_option maxRecDepth 100000 in
set_option maxHeartbeats 16000000 in
theorem DueAgain_calls (W : World) (A : Option Addr) (c : Nat) (id : Int) (l : List Int) (now : Int) (hL : Kd.C (Kd.int .i64) W A l.length l) (hc : l.length ≤ c) :
    Calls Try.prog 6 #[.int .i64 id, .slice A l.length c, .int .i64 now] W fun e w' => e = .returned (.bool true) ∧ Below W.heap.size W w' := by
  have HL := Aside0.mk hL
  clear hL
  by_cases h0 : l.length = 0
  · have h0i : ((l.length : Int) == 0) = true := by rw [h0]; rfl
    clear h0
    go_enter Try.func6, Try.ntmps6
    go_wp2_with fail
    refine (answers_calls _).mono ?_
    rintro e w4 ⟨rfl, hb4⟩
    have HB4 := Aside0.mk hb4
    clear hb4
    go_wp2
    go_ret
    exact ⟨rfl, HB4.out⟩
  · have h0i : ((l.length : Int) == 0) = false := beq_eq_false_iff_ne.2 (by omega)
    by_cases h1 : (50 : Int) < l.length
    · go_enter Try.func6, Try.ntmps6
      go_wp2_with fail
      refine (answers_calls _).mono ?_
      rintro e w4 ⟨rfl, hb4⟩
      have HB4 := Aside0.mk hb4
      clear hb4
      go_wp2
      go_ret
      exact ⟨rfl, HB4.out⟩
    · have HN := Aside0.mk (DL.new W)
      go_enter Try.func6, Try.ntmps6
      go_wp2_with fail
      refine HN.out.mono ?_
      rintro e w1 ⟨q, F1, rfl, hd1⟩
      have HD1 := Aside0.mk hd1
      clear hd1 HN
      go_wp2
      go_loopw [8] (fun v8 wr => ∃ i : Nat, v8 = .int .i64 i ∧ i ≤ l.length ∧ Aside0 (∃ F, DL W wr F q (agP id l i))) (fun v8 _ => l.length - (intOf v8).toNat)
      case atStart => exact ⟨0, rfl, Nat.zero_le _, ⟨F1, HD1.out⟩⟩
      case round =>
        obtain ⟨i, rfl, hi, HI⟩ := hrel
        obtain ⟨F, hd⟩ := HI.out
        by_cases hlt : i < l.length
        · obtain ⟨ad, rfl, hx0⟩ := Kd.at_int (Kd.C_below HL.out hd.2.2) (i : Int) (by omega) (by omega)
          rw [Int.toNat_natCast] at hx0
          obtain ⟨x, hx⟩ : ∃ x, x = l[i] := ⟨_, rfl⟩
          have hx1 : wr.cell? (ad.add i) = some (.int .i64 x) := by rw [hx, ← getD_at l i hlt]; exact hx0
          have HS := Aside0.mk (hd.set id x (by have := agP_len id l i; omega))
          rw [show setF (agP id l i) id x = agP id l (i + 1) from by rw [hx]; exact agP_step id l i hlt] at HS
          clear hx hx0 hd HI
          go_wp2_with fail
          refine HS.out.mono ?_
          rintro e w2 ⟨rfl, F2, hd2⟩
          have HD2 := Aside0.mk hd2
          clear hd2 HS hx1
          go_wp2
          go_roundw
          case rel => exact ⟨i + 1, by go_num, hlt, ⟨F2, HD2.out⟩⟩
          case measure => simp [intOf]; omega
        · obtain rfl : i = l.length := by omega
          have HF := Aside0.mk (hd.first now (by have := agP_len id l l.length; omega))
          have HD := Aside0.mk hd
          obtain ⟨ad, rfl, hx0⟩ := Kd.at_int (Kd.C_below HL.out hd.2.2) ((l.length - 1 : Nat) : Int) (by omega) (by omega)
          rw [Int.toNat_natCast] at hx0
          obtain ⟨x, hx⟩ : ∃ x, x = l.getD (l.length - 1) 0 := ⟨_, rfl⟩
          rw [agP_end id l (by omega), ← hx] at HF HD
          have hx1 : wr.cell? (ad.add (l.length - 1)) = some (.int .i64 x) := by rw [hx]; exact hx0
          have hi1 : ((l.length : Int) - 1).toNat = l.length - 1 := by omega
          clear hx hx0 hd HI
          by_cases hle : x ≤ now
          · have hfp : firstF [(id, x)] now = (id, true) := if_neg (by omega)
            unfold FirstPost at HF
            rw [hfp] at HF
            clear hfp
            go_wp2_with fail
            refine HF.out.mono ?_
            rintro e w2 ⟨rfl, hw2⟩
            subst hw2
            clear HF
            go_wp2_with fail
            refine (answers_calls _).mono ?_
            rintro e w3 ⟨rfl, hb3⟩
            have H3 := Aside0.mk (HD.out.below hb3)
            have HA := Aside0.mk (H3.out.all (by simp))
            clear hb3
            go_wp2_with fail
            refine HA.out.mono ?_
            rintro e w4 ⟨A4, c4, rfl, _, _, hd4, _⟩
            have HDR := Aside0.mk (hd4.drop id (by simp))
            rw [idx_one, drop_one, show decide (0 < [(id, x)].length) = true from rfl] at HDR
            clear hd4 HA
            go_wp2_with fail
            refine HDR.out.mono ?_
            rintro e w5 ⟨rfl, hd5⟩
            have HA5 := Aside0.mk (hd5.all (by simp))
            clear hd5 HDR
            go_wp2_with fail
            refine HA5.out.mono ?_
            rintro e w6 ⟨A6, c6, rfl, _, _, hd6, _⟩
            have HB6 := Aside0.mk hd6.2.2
            clear hd6 HA5
            go_wp2
            go_ret
            exact ⟨rfl, HB6.out⟩
          · have hfp : firstF [(id, x)] now = (0, false) := if_pos (by omega)
            unfold FirstPost at HF
            rw [hfp] at HF
            clear hfp
            go_wp2_with fail
            refine HF.out.mono ?_
            rintro e w2 ⟨rfl, hw2⟩
            subst hw2
            clear HF
            go_wp2_with fail
            refine (answers_calls _).mono ?_
            rintro e w3 ⟨rfl, hb3⟩
            have H3 := Aside0.mk (HD.out.below hb3)
            have HA := Aside0.mk (H3.out.all (by simp))
            clear hb3
            go_wp2_with fail
            refine HA.out.mono ?_
            rintro e w4 ⟨A4, c4, rfl, _, _, hd4, _⟩
            have HDR := Aside0.mk (hd4.drop id (by simp))
            rw [idx_one, drop_one, show decide (0 < [(id, x)].length) = true from rfl] at HDR
            clear hd4 HA
            go_wp2_with fail
            refine HDR.out.mono ?_
            rintro e w5 ⟨rfl, hd5⟩
            have HA5 := Aside0.mk (hd5.all (by simp))
            clear hd5 HDR
            go_wp2_with fail
            refine HA5.out.mono ?_
            rintro e w6 ⟨A6, c6, rfl, _, _, hd6, _⟩
            have HB6 := Aside0.mk hd6.2.2
            clear hd6 HA5
            go_wp2
            go_ret
            exact ⟨rfl, HB6.out⟩
end Go.Proofs.Ytebmhjiogomheaa.Hand
