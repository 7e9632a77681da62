/- DueOrder, walked by hand. -/
import Derived.Test.YtebmhjiogomheaaDueTimes
namespace Go.Proofs.Ytebmhjiogomheaa.Hand
open Go.RowKit Go.Proofs.YtebmhjiogomheaaW.PrintWords Go.Proofs.YtebmhjiogomheaaW.PrintLast Go.Proofs.YtebmhjiogomheaaW.PrintMore Go.Proofs.Ytebmhjiogomheaa.PA
set_option linter.unusedVariables false
set_option linter.unusedSimpArgs false
/-- At the head of the second loop. -/
def OrI (W wr : World) (q : Nat) (l : List Int) (r : Nat) (last time : Int) : Prop := ∃ F p, DL W wr F q p ∧ Ord l r last time p
set_option maxRecDepth 100000 in
set_option maxHeartbeats 16000000 in
theorem DueOrder_calls (W : World) (A : Option Addr) (c : Nat) (l : List Int) (hL : Kd.C (Kd.int .i8) W A l.length l) (hc : l.length ≤ c) (hb : ∀ x ∈ l, -128 ≤ x ∧ x < 128) :
    Calls Try.prog 4 #[.slice A l.length c] W fun e w' => e = .returned (.bool true) ∧ Below W.heap.size W w' := by
  have HL := Aside0.mk hL
  have HBD := Aside0.mk hb
  clear hL hb
  by_cases h1 : (100 : Int) < l.length
  · go_enter Try.func4, Try.ntmps4
    go_wp2_with fail
    refine (answers_calls _).mono ?_
    rintro e w4 ⟨rfl, hb4⟩
    have HB4 := Aside0.mk hb4
    clear hb4
    go_wp2
    go_ret
    exact ⟨rfl, HB4.out⟩
  · have HN := Aside0.mk (DL.new W)
    go_enter Try.func4, Try.ntmps4
    go_wp2_with fail
    refine HN.out.mono ?_
    rintro e w1 ⟨q, F1, rfl, hd1⟩
    have HD1 := Aside0.mk hd1
    clear hd1 HN
    go_wp2
    go_loopw [4] (fun v4 wr => ∃ i : Nat, v4 = .int .i64 i ∧ i ≤ l.length ∧ Aside0 (∃ F p, DL W wr F q p ∧ Tl l i p)) (fun v4 _ => l.length - (intOf v4).toNat)
    case atStart => exact ⟨0, rfl, Nat.zero_le _, ⟨F1, [], HD1.out, Tl.start l⟩⟩
    case round =>
      obtain ⟨i, rfl, hi, HI⟩ := hrel
      obtain ⟨F, p, hd, ht⟩ := HI.out
      by_cases hlt : i < l.length
      · obtain ⟨ad, rfl, hx0⟩ := at_num (Kd.C_below HL.out hd.2.2) i hlt
        have hbx := HBD.out _ (getD_mem hlt)
        have HS := Aside0.mk (hd.set i (l.getD i 0) (ht.set_len hi (by omega)))
        rw [show setF p i (l.getD i 0) = setF p i l[i] from by rw [getD_at l i hlt]] at HS
        have HST := Aside0.mk (ht.step hlt)
        obtain ⟨x, hx⟩ : ∃ x, x = l.getD i 0 := ⟨_, rfl⟩
        rw [← hx] at hbx hx0 HS
        have hbx1 := hbx.1
        have hbx2 := hbx.2
        clear hx hd ht HI hbx
        go_wp2_with fail
        refine HS.out.mono ?_
        rintro e w2 ⟨rfl, F2, hd2⟩
        have HD2 := Aside0.mk hd2
        clear hd2 HS hx0
        go_wp2
        go_roundw
        case rel => exact ⟨i + 1, by go_num, hlt, ⟨F2, _, HD2.out, HST.out⟩⟩
        case measure => simp [intOf]; omega
      · obtain rfl : i = l.length := by omega
        have HO := Aside0.mk (show OrI W wr q l 0 (-1) (-1000) from ⟨F, p, hd, ht.ord HBD.out⟩)
        clear hd ht HI
        go_wp2
        go_loopw [5, 6, 7] (fun v5 v6 v7 wr => ∃ (r : Nat) (last time : Int), v7 = .int .i64 r ∧ v5 = .int .i64 last ∧ v6 = .int .i64 time ∧ r ≤ l.length ∧ Aside0 (OrI W wr q l r last time)) (fun _ _ v7 _ => l.length - (intOf v7).toNat)
        case atStart => exact ⟨0, -1, -1000, rfl, rfl, rfl, Nat.zero_le _, ⟨HO.out⟩⟩
        case round =>
          obtain ⟨r, last, time, rfl, rfl, rfl, hr, HI⟩ := hrel
          obtain ⟨F, p, hd, ho⟩ := HI.out
          have HPL := Aside0.mk (show p.length ≤ 100 from by have := ho.len; omega)
          have HF := Aside0.mk (hd.first 1000 (by have := HPL.out; omega))
          have HD := Aside0.mk hd
          by_cases hlt : r < l.length
          · obtain ⟨j, hj, hf, ht1, ht2, hs⟩ := ho.step hlt HBD.out
            unfold FirstPost at HF
            rw [hf] at HF
            have HST := Aside0.mk hs
            obtain ⟨ad, rfl, hx0⟩ := at_num (Kd.C_below HL.out hd.2.2) j hj
            have hbx := HBD.out _ (getD_mem hj)
            have HDR := Aside0.mk (fun n => (hd.below (bel_drewN _ n)).drop j (by have := HPL.out; omega))
            rw [← getD_at l j hj] at ht1 ht2 HST
            obtain ⟨x, hx⟩ : ∃ x, x = l.getD j 0 := ⟨_, rfl⟩
            rw [← hx] at ht1 ht2 HST hx0 hbx
            have hbx1 := hbx.1
            have hbx2 := hbx.2
            clear hx hd ho HI hf hs hbx
            go_wp2_with fail
            refine HF.out.mono ?_
            rintro e w2 ⟨rfl, hw2⟩
            subst hw2
            clear HF
            have hjn : ¬ ((j : Int) < 0) := by omega
            have hjl : ¬ ((l.length : Int) ≤ j) := by omega
            by_cases hxt : x = time
            · have hjl2 : ¬ ((j : Int) ≤ last) := fun h => ht2 ⟨hxt, h⟩
              have hxt' : (x == time) = true := by rw [hxt]; exact beq_self_eq_true time
              have HXT := Aside0.mk hxt
              clear hxt ht2
              go_wp2
              go_quiet (fail)
              go_wp2_with fail
              refine (HDR.out _).mono ?_
              rintro e w3 ⟨rfl, hd3⟩
              have HD3 := Aside0.mk hd3
              clear hd3 HDR hx0
              go_wp2
              go_roundw
              case rel => exact ⟨r + 1, j, x, by go_num, rfl, rfl, hlt, ⟨F, _, HD3.out, HST.out⟩⟩
              case measure => simp [intOf]; omega
            · have hxt' : (x == time) = false := beq_eq_false_iff_ne.2 hxt
              clear hxt ht2
              go_wp2
              go_quiet (fail)
              go_wp2_with fail
              refine (HDR.out _).mono ?_
              rintro e w3 ⟨rfl, hd3⟩
              have HD3 := Aside0.mk hd3
              clear hd3 HDR hx0
              go_wp2
              go_roundw
              case rel => exact ⟨r + 1, j, x, by go_num, rfl, rfl, hlt, ⟨F, _, HD3.out, HST.out⟩⟩
              case measure => simp [intOf]; omega
          · obtain rfl : r = l.length := by omega
            have hp := ho.ends
            subst hp
            unfold FirstPost at HF
            rw [show firstF [] 1000 = (0, false) from rfl] at HF
            clear hd ho HI
            go_wp2_with fail
            refine HF.out.mono ?_
            rintro e w2 ⟨rfl, hw2⟩
            subst hw2
            clear HF
            go_wp2_with fail
            refine (answers_calls _).mono ?_
            rintro e w4 ⟨rfl, hb4⟩
            have HA := Aside0.mk ((HD.out.below hb4).all (by simp))
            clear hb4
            go_wp2_with fail
            refine HA.out.mono ?_
            rintro e w5 ⟨A5, c5, rfl, _, _, hd5, _⟩
            have HB5 := Aside0.mk hd5.2.2
            clear hd5 HA
            go_wp2
            go_ret
            exact ⟨rfl, HB5.out⟩
end Go.Proofs.Ytebmhjiogomheaa.Hand
