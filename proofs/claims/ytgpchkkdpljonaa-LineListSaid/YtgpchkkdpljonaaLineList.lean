/- LineList, walked by hand. -/
import Derived.Test.YtgpchkkdpljonaaLineLaws
namespace Go.Proofs.Ytgpchkkdpljonaa.Hand
open Go.RowKit Go.Proofs.YtgpchkkdpljonaaW.PrintWords Go.Proofs.YtgpchkkdpljonaaW.PrintLast Go.Proofs.YtgpchkkdpljonaaW.PrintMore
set_option linter.unusedVariables false
set_option linter.unusedSimpArgs false
def feedL (l : List ByteArray) : List UInt8 := l.flatMap fun s => s.data.toList ++ [13, 10]
def fits (s : ByteArray) : Prop := s.size ≤ 100 ∧ free s.data.toList
theorem feed_len (l : List ByteArray) (h : ∀ s ∈ l, fits s) : (feedL l).length ≤ 102 * l.length := by
  induction l with
  | nil => simp [feedL]
  | cons s l ih =>
    have h0 := ih (fun x hx => h x (List.mem_cons_of_mem _ hx))
    have h1 := (h s List.mem_cons_self).1
    have h2 := str_size s
    have e : feedL (s :: l) = (s.data.toList ++ [13, 10]) ++ feedL l := by unfold feedL; rw [List.flatMap_cons]
    rw [e]
    simp only [List.length_append, List.length_cons, List.length_nil]
    omega
theorem mkS_id (s : ByteArray) : mkS s.data.toList = s := ByteArray.ext (Array.toList_inj.1 rfl)
theorem feed_snoc (l : List ByteArray) (k : Nat) (hk : k < l.length) : feedL (l.take (k + 1)) = feedL (l.take k) ++ (l[k].data.toList ++ [13, 10]) := by
  rw [List.take_succ_eq_append_getElem hk]
  unfold feedL
  rw [List.flatMap_append]
  simp
theorem feed_next (most : Int) (l : List ByteArray) (k : Nat) (hk : k < l.length) (h : fits l[k]) (hm : (l[k].size : Int) + 2 ≤ most) : nextL most (feedL (l.drop k)) = ((1, l[k], true), feedL (l.drop (k + 1))) := by
  have e : feedL (l.drop k) = l[k].data.toList ++ 13 :: 10 :: feedL (l.drop (k + 1)) := by
    rw [List.drop_eq_getElem_cons hk]
    unfold feedL
    rw [List.flatMap_cons]
    simp
  have hf := h.2
  have hl : lineOf most l[k].data.toList = (1, l[k]) := by
    unfold lineOf
    rw [if_neg (by rw [str_size]; omega), if_neg (by unfold free at hf; simp [hf]), mkS_id]
  rw [e, next_line most _ _ hf, hl]
theorem rd_at (l : List ByteArray) (k : Nat) (h : k < l.length) : rdOf ByteArray.empty l (k : Int) = l[k] := by unfold rdOf; simp [List.getD_eq_getElem?_getD, h]
set_option maxHeartbeats 8000000 in
theorem LineList_calls (A : Option Addr) (c : Nat) (l : List ByteArray) (m : Int) (w : World) (hr : Kd.C Kd.string w A l.length l) (hc : l.length ≤ c) (hs' : ∀ s ∈ l, s.size ≤ 140737488351232) (hm : w.cell? ⟨0, 0, none⟩ = some (.int .i64 m)) :
    Calls Try.prog 4 #[.slice A l.length c] w fun e w' => e = .returned (.bool true) ∧ Below w.heap.size w w' := by
  have h0 := World.block_lt_of_cell? w _ hm
  have HA : Aside0 (∀ W, Below w.heap.size w W → Calls Try.prog 7 #[] W fun e w' => e = .returned (.bool true) ∧ Below W.heap.size W w') := ⟨fun W hW => answers_calls W m ((hW.cell (p := ⟨0, 0, none⟩) h0).trans hm)⟩
  have HM := Aside0.mk hm
  have HR := Aside0.mk hr
  have hfd := line_kind
  clear hm hr
  by_cases hl : 100 < l.length
  · go_enter Try.func4, Try.ntmps4
    go_wp2_with (go_at_call 7; refine (HA.out _ (Below.refl _ _)).mono ?_; rintro e w3 ⟨rfl, hb3⟩; have HB3 := Aside0.mk hb3; clear hb3)
    go_ret
    exact ⟨rfl, HB3.out⟩
  · go_enter Try.func4, Try.ntmps4
    go_wp2_with fail
    refine (New_calls _).mono ?_
    rintro e w2 ⟨rfl, rfl⟩
    go_wp2_with fail
    have hbN : Below w.heap.size w (w.alloc (.cells #[.slice none 0 0] 42)) := below_alloc (Below.refl _ _) _
    have HRN := Aside0.mk (Rdr.new w w.heap.size (Nat.le_refl _))
    have HBN := Aside0.mk hbN
    clear hbN
    go_loopw [4] (fun v4 wr => ∃ k : Nat, v4 = .int .i64 k ∧ k ≤ l.length ∧ Aside0 ((∀ s ∈ l.take k, fits s) ∧ Below w.heap.size w wr ∧ ∃ v, Rdr wr w.heap.size w.heap.size v (feedL (l.take k)))) (fun v4 _ => l.length - (intOf v4).toNat)
    case atStart => exact ⟨0, rfl, Nat.zero_le _, ⟨fun s hs => by simp at hs, HBN.out, _, HRN.out⟩⟩
    case round =>
      obtain ⟨k, rfl, hk, HI⟩ := hrel
      by_cases hlt : k < l.length
      · obtain ⟨ad, rfl, hx⟩ := Kd.at_string HR.out (k : Int) (by omega) (by omega)
        rw [rd_at l k hlt, Int.toNat_natCast] at hx
        have hxr : wr.cell? (ad.add k) = some (.string l[k]) := pw_cell_below HI.out.2.1 hx
        clear hx
        obtain ⟨s, hs⟩ : ∃ s, s = l[k] := ⟨_, rfl⟩
        rw [← hs] at hxr
        have hss : s.size ≤ 140737488351232 := by rw [hs]; exact hs' _ (List.getElem_mem hlt)
        have HS := Aside0.mk hs
        clear hs
        by_cases hsl : 100 < s.size
        · go_wp2_with (go_at_call 7; refine (HA.out _ HI.out.2.1).mono ?_; rintro e w3 ⟨rfl, hb3⟩; have HB3 := Aside0.mk (HI.out.2.1.trans (hb3.mono HI.out.2.1.size)); clear hb3)
          go_ret
          exact ⟨rfl, HB3.out⟩
        · obtain ⟨A0, c0, w0, hk0, hbw0, hC0, hc0⟩ := str_bytes s wr (by omega)
          obtain ⟨b, hbs⟩ : ∃ b, b = s.data.toList := ⟨_, rfl⟩
          have hlb : b.length = s.size := by rw [hbs]; exact str_size s
          have HL := Aside0.mk (PB.estafetteref01_Line.calls (b.length + 1) A0 c0 (numsL b) 1000 (lineOf 1000 b).1 (lineOf 1000 b).2 w0 (hbs ▸ hC0) (by rw [nums_len, hlb]; exact hc0) (ref_line b 1000 _ (by omega) (by omega)))
          rw [nums_len, hlb] at HL
          have HBW0 := Aside0.mk (HI.out.2.1.trans (hbw0.mono HI.out.2.1.size))
          have HBW1 := Aside0.mk hbw0
          have HBS := Aside0.mk hbs
          have HLB := Aside0.mk hlb
          clear hbw0 hC0 hbs
          by_cases hf : free b
          case neg =>
            have hlo : lineOf 1000 b = (3, ⟨#[]⟩) := by
              unfold lineOf
              rw [if_neg (by omega), if_pos (by unfold free at hf; exact Bool.not_eq_false _ ▸ hf)]
            rw [hlo] at HL
            clear hlo hf hlb
            go_wp2_with (first | (go_at_call 13; refine HL.out.mono ?_; rintro e w1 ⟨rfl, hb1⟩; have HB1 := Aside0.mk (HBW0.out.trans (hb1.mono HBW0.out.size)); clear hb1) | (go_at_call 7; refine (HA.out _ HB1.out).mono ?_; rintro e w3 ⟨rfl, hb3⟩; have HB3 := Aside0.mk (HB1.out.trans (hb3.mono HB1.out.size)); clear hb3))
            go_ret
            exact ⟨rfl, HB3.out⟩
          have hlo : lineOf 1000 b = (1, mkS b) := by
            unfold lineOf
            rw [if_neg (by omega), if_neg (by unfold free at hf; simp [hf])]
          rw [hlo] at HL
          have HF := Aside0.mk hf
          clear hlo hf hlb
          go_wp2_with (go_at_call 13; refine HL.out.mono ?_; rintro e w1 ⟨rfl, hb1⟩; have hxr1 := pw_cell_below (HBW1.out.trans (hb1.mono HBW1.out.size)) hxr; have HB1 := Aside0.mk (HBW0.out.trans (hb1.mono HBW0.out.size)); have HBR := Aside0.mk (HBW1.out.trans (hb1.mono HBW1.out.size)); clear hb1)
          obtain ⟨vr, hRr⟩ := HI.out.2.2
          have hR1 := hRr.below HBR.out
          generalize hX : (s ++ (⟨#[13, 10]⟩ : ByteArray)) = X
          have hXl : X.data.toList = b ++ [13, 10] := by
            rw [← hX, HBS.out]
            simp
          have hXs : X.size = s.size + 2 := by
            rw [← str_size, hXl, List.length_append, HLB.out]
            rfl
          obtain ⟨A1, c1, w3, hk1, hbw1, hC1, hc1⟩ := str_bytes X w1 (by omega)
          have hR3 := hR1.below hbw1
          rw [hXl] at hC1
          have hB3 := HB1.out.trans (hbw1.mono HB1.out.size)
          have hfl := feed_len (l.take k) HI.out.1
          have hlb' := HLB.out
          have hF := Feed_calls w3 w.heap.size w.heap.size _ (feedL (l.take k)) (b ++ [13, 10]) A1 c1 hR3 hB3.size hC1 (by rw [List.length_take] at hfl; simp; omega)
          have hsn := feed_snoc l k hlt
          rw [← HS.out, ← HBS.out] at hsn
          rw [nums_len, ← hXl, str_size, hXl, ← hsn] at hF
          have HF3 := Aside0.mk hF
          have HB3 := Aside0.mk hB3
          clear hX hXl hXs hRr hbw1 hR3 hC1 hB3 hF hc1 hfl hsn hR1 hlb'
          rw [hk1]
          go_wp2_with fail
          refine HF3.out.mono ?_
          rintro e w4 ⟨v4, rfl, hR4, hb4, -, -⟩
          have HB4 := Aside0.mk (HB3.out.trans hb4)
          have HR4 := Aside0.mk hR4
          clear hR4 hb4
          go_wp2
          go_roundw
          case rel =>
            refine ⟨k + 1, by go_num, by omega, ⟨fun x hx => ?_, HB4.out, v4, HR4.out⟩⟩
            rw [List.take_succ_eq_append_getElem hlt, List.mem_append, List.mem_singleton] at hx
            rcases hx with hx | rfl
            · exact HI.out.1 x hx
            · rw [← HS.out]
              exact ⟨by omega, by rw [← HBS.out]; exact HF.out⟩
          case measure => simp [intOf]; omega
      · obtain rfl : k = l.length := by omega
        go_wp2_with fail
        have hI := HI.out
        rw [List.take_length] at hI
        have HI2 := Aside0.mk hI
        clear hI HI
        have HP := Aside0.mk (show wr.cell? ⟨0, 0, none⟩ = some (.int .i64 m) from (HI2.out.2.1.cell (p := ⟨0, 0, none⟩) h0).trans HM.out)
        go_loopw [5] (fun v5 w2 => ∃ k : Nat, v5 = .int .i64 k ∧ k ≤ l.length ∧ Aside0 (Below w.heap.size w w2 ∧ ∃ v, Rdr w2 w.heap.size w.heap.size v (feedL (l.drop k)))) (fun v5 _ => l.length - (intOf v5).toNat)
        case atStart => exact ⟨0, rfl, Nat.zero_le _, ⟨HI2.out.2⟩⟩
        case round =>
          obtain ⟨k, rfl, hk, HI⟩ := hrel
          by_cases hlt : k < l.length
          · obtain ⟨ad, rfl, hx⟩ := Kd.at_string HR.out (k : Int) (by omega) (by omega)
            rw [rd_at l k hlt, Int.toNat_natCast] at hx
            obtain ⟨s, hs⟩ : ∃ s, s = l[k] := ⟨_, rfl⟩
            rw [← hs] at hx
            have HS := Aside0.mk hs
            have HX := Aside0.mk hx
            have hxr : wr.cell? (ad.add k) = some (.string s) := pw_cell_below HI.out.1 hx
            have hfit : fits s := by rw [hs]; exact HI2.out.1 _ (List.getElem_mem hlt)
            have HFT := Aside0.mk hfit
            have hssz := hfit.1
            clear hx hs hfit
            go_wp2_with fail
            obtain ⟨vr, hRr⟩ := HI.out.2
            have hfl := feed_len (l.drop k) (fun x hx => HI2.out.1 x (List.mem_of_mem_drop hx))
            have hm1 := (HI.out.1.cell (p := ⟨0, 0, none⟩) h0).trans HM.out
            have hN := Next_calls wr w.heap.size w.heap.size vr _ ((s.size : Int) + 2) m hRr HI.out.1.size (by rw [List.length_drop] at hfl; omega) hm1
            rw [feed_next _ l k hlt (by rw [← HS.out]; exact HFT.out) (by rw [← HS.out]; omega), ← HS.out] at hN
            refine hN.mono ?_
            rintro e w5 ⟨v5, rfl, hR5, hb5, -, -⟩
            have HB5 := Aside0.mk (HI.out.1.trans hb5)
            have HR5 := Aside0.mk hR5
            have hx5 : ∀ o, (w5.alloc o).cell? (ad.add k) = some (.string s) := fun o => pw_cell_below (HB5.out.alloc HB5.out.size o) HX.out
            clear hRr hfl hm1 hN hR5 hb5 hxr
            have hx6 := hx5 (.cells #[.int .i64 1, .string s] 29)
            clear hx5
            go_wp2
            repeat (go_quiet (fail); try go_wp2)
            go_roundw
            case rel =>
              refine ⟨k + 1, by go_num, by omega, ⟨pw_below_drewN (HB5.out.alloc HB5.out.size _) _, v5, HR5.out.below (pw_below_drewN (below_alloc (Below.refl _ _) _) _)⟩⟩
            case measure => simp [intOf]; omega
          · obtain rfl : k = l.length := by omega
            go_wp2_with fail
            obtain ⟨vr, hRr⟩ := HI.out.2
            rw [List.drop_length] at hRr
            have hm1 := (HI.out.1.cell (p := ⟨0, 0, none⟩) h0).trans HM.out
            refine (Next_calls wr w.heap.size w.heap.size vr _ 1000 m hRr HI.out.1.size (by simp [feedL]) hm1).mono ?_
            have hn : nextL 1000 (feedL []) = ((0, ⟨#[]⟩, false), []) := rfl
            rw [hn]
            rintro e w5 ⟨v5, rfl, hR5, hb5, -, -⟩
            have HB5 := Aside0.mk (HI.out.1.trans hb5)
            have HR5 := Aside0.mk hR5
            have HLF := Aside0.mk (fun (W : World) (hW : Below w5.heap.size w5 W) => Left_calls W _ _ _ _ (HR5.out.below hW))
            clear hRr hm1 hR5 hb5 hn
            go_wp2_with (first | (go_at_call 7; refine (HA.out _ (HB5.out.alloc HB5.out.size _)).mono ?_; rintro e w8 ⟨rfl, hb8⟩; have HB8 := Aside0.mk ((HB5.out.alloc HB5.out.size _).trans (hb8.mono (HB5.out.alloc HB5.out.size _).size)); have HW8 := Aside0.mk (below_step (below_alloc (Below.refl _ _) _) hb8); clear hb8) | (go_at_call 12; refine (HLF.out _ HW8.out).mono ?_; rintro e w9 ⟨rfl, rfl⟩))
            go_ret
            exact ⟨rfl, HB8.out⟩
end Go.Proofs.Ytgpchkkdpljonaa.Hand
