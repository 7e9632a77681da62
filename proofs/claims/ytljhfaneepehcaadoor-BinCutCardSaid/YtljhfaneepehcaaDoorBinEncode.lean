/- bin.Encode, walked by hand. -/
import Derived.Test.YtljhfaneepehcaaDoorEnvGood
import Derived.Test.YtljhfaneepehcaaDoorBinWriter
namespace Go.Proofs.YtljhfaneepehcaaDoor.Hand
open Go.RowKit Go.Proofs.YtljhfaneepehcaaDoorW.PrintWords Go.Proofs.YtljhfaneepehcaaDoorW.PrintLast Go.Proofs.YtljhfaneepehcaaDoorW.PrintMore Go.Proofs.YtljhfaneepehcaaDoor.Addr
set_option linter.unusedVariables false
set_option linter.unusedSimpArgs false
def encL (a0 a1 a2 a3 a4 : Int) (a5 : ByteArray) (l6 : List ByteArray) (l7 : List Int) (l8 : List ByteArray) : List Int :=
  2 :: ([a0, a1, a2, a3, a4].flatMap (numB · 6) ++ (textB a5 ++ (numB (l6.length : Int) 2 ++ (l6.flatMap textB ++ (numB (l7.length : Int) 2 ++ (l7.flatMap (numB · 1) ++ (numB (l8.length : Int) 4 ++ l8.flatMap textB)))))))
def okNum (n : Int) : Bool := decide (0 ≤ n) && decide (n < 4611686018427387904)
def bin_Encode.f (k : Nat) (a0 a1 a2 a3 a4 : Int) (a5 : ByteArray) (l6 : List ByteArray) (l7 : List Int) (l8 : List ByteArray) : Option (List Int × Int) :=
  (env_Good.f k a0 a1 a2 a3 a4 a5 l6 l7 l8).bind fun g => if g = true then
    if ([a0, a1, a2, a3, a4].all okNum = true ∧ l7.all okNum = true ∧ (encL a0 a1 a2 a3 a4 a5 l6 l7 l8).length ≤ 1000000000) ∧ l6.length ≤ 1000000 ∧ l7.length ≤ 1000000 ∧ l8.length ≤ 1000000 then some (encL a0 a1 a2 a3 a4 a5 l6 l7 l8, 0) else none
  else some ([], 2)
theorem env_Good.mono (a0 a1 a2 a3 a4 : Int) (a5 : ByteArray) (l6 : List ByteArray) (l7 : List Int) (l8 : List ByteArray) (k : Nat) : LeO (env_Good.f k a0 a1 a2 a3 a4 a5 l6 l7 l8) (env_Good.f (k + 1) a0 a1 a2 a3 a4 a5 l6 l7 l8) := by
  intro r h
  unfold env_Good.f at h ⊢
  obtain ⟨i, h1, h⟩ := Option.bind_eq_some_iff.1 h
  refine Option.bind_eq_some_iff.2 ⟨i, h1, ?_⟩
  split at h
  · rw [if_pos ‹_›]; exact h
  rw [if_neg ‹_›]
  obtain ⟨b, h2, h⟩ := Option.bind_eq_some_iff.1 h
  refine Option.bind_eq_some_iff.2 ⟨b, h2, ?_⟩
  split at h
  case isFalse => rw [if_neg ‹_›]; exact h
  rw [if_pos ‹_›]
  split at h
  case isFalse => rw [if_neg ‹_›]; exact h
  rw [if_pos ‹_›]
  split at h
  case isFalse => rw [if_neg ‹_›]; exact h
  rw [if_pos ‹_›]
  obtain ⟨i3, h3, h⟩ := Option.bind_eq_some_iff.1 h
  refine Option.bind_eq_some_iff.2 ⟨i3, h3, ?_⟩
  split at h
  · rw [if_pos ‹_›]; exact h
  rw [if_neg ‹_›]
  split at h
  case isFalse => rw [if_neg ‹_›]; exact h
  rw [if_pos ‹_›]
  obtain ⟨i4, h4, h⟩ := Option.bind_eq_some_iff.1 h
  refine Option.bind_eq_some_iff.2 ⟨i4, h4, ?_⟩
  split at h
  · rw [if_pos ‹_›]; exact h
  rw [if_neg ‹_›]
  exact PB.dots_Good.mono _ _ _ h
theorem bin_Encode.mono (a0 a1 a2 a3 a4 : Int) (a5 : ByteArray) (l6 : List ByteArray) (l7 : List Int) (l8 : List ByteArray) (k : Nat) : LeO (bin_Encode.f k a0 a1 a2 a3 a4 a5 l6 l7 l8) (bin_Encode.f (k + 1) a0 a1 a2 a3 a4 a5 l6 l7 l8) := by
  intro r h
  unfold bin_Encode.f at h ⊢
  obtain ⟨g, h1, h⟩ := Option.bind_eq_some_iff.1 h
  exact Option.bind_eq_some_iff.2 ⟨g, env_Good.mono _ _ _ _ _ _ _ _ _ _ _ h1, h⟩
set_option maxHeartbeats 16000000 in
set_option maxRecDepth 100000 in
theorem bin_Encode.calls (k : Nat) (a0 a1 a2 a3 a4 : Int) (a5 : ByteArray) (A6 : Option Addr) (c6 : Nat) (l6 : List ByteArray) (A7 : Option Addr) (c7 : Nat) (l7 : List Int) (A8 : Option Addr) (c8 : Nat) (l8 : List ByteArray) (r1 : List Int) (r2 : Int) (w : World) (hr6 : Kd.C Kd.string w A6 l6.length l6) (hc6 : l6.length ≤ c6) (hr7 : Kd.C (Kd.int .i64) w A7 l7.length l7) (hc7 : l7.length ≤ c7) (hr8 : Kd.C Kd.string w A8 l8.length l8) (hc8 : l8.length ≤ c8) (h : bin_Encode.f k a0 a1 a2 a3 a4 a5 l6 l7 l8 = some (r1, r2)) :
    Calls Tryd.prog 9 #[.agg #[.int .i64 a0, .int .i64 a1, .int .i64 a2, .int .i64 a3, .int .i64 a4, .string a5, .slice A6 l6.length c6, .slice A7 l7.length c7, .slice A8 l8.length c8]] w fun e w' => ∃ v0_ : Value, e = .returned (.tuple #[v0_, .int .i64 r2]) ∧ Kd.R (Kd.int .u8) 5 w' w.heap.size (fun _ => True) v0_ r1 ∧ Below w.heap.size w w' := by
  have HR6 := Aside0.mk hr6
  have HR7 := Aside0.mk hr7
  have HR8 := Aside0.mk hr8
  obtain ⟨g, hg, h⟩ := Option.bind_eq_some_iff.1 h
  have HH := Aside0.mk h
  have HG := Aside0.mk (fun W (hb : Below w.heap.size w W) => env_Good.calls k a0 a1 a2 a3 a4 a5 A6 c6 l6 A7 c7 l7 A8 c8 l8 g W (Kd.C_below hr6 hb) hc6 (Kd.C_below hr7 hb) hc7 (Kd.C_below hr8 hb) hc8 hg)
  clear hr6 hr7 hr8 hg h
  go_enter Tryd.func9, Tryd.ntmps9
  go_wp2_with fail
  refine (HG.out _ (below_alloc (Below.refl _ _) _)).mono ?_
  rintro e w1 ⟨rfl, hb1⟩
  have hm1 := blk_below (blk_new w (.cells #[.int .i64 a0, .int .i64 a1, .int .i64 a2, .int .i64 a3, .int .i64 a4, .string a5, .slice A6 l6.length c6, .slice A7 l7.length c7, .slice A8 l8.length c8] 25)) hb1
  have HB1 := Aside0.mk (below_step (below_alloc (Below.refl _ _) _) hb1)
  have hc10 := (blk_cell hm1 0).trans rfl
  have hc11 := (blk_cell hm1 1).trans rfl
  have hc12 := (blk_cell hm1 2).trans rfl
  have hc13 := (blk_cell hm1 3).trans rfl
  have hc14 := (blk_cell hm1 4).trans rfl
  have hlt1 := blk_lt hm1
  have HM1 := Aside0.mk hm1
  clear hb1 hm1 HG
  cases g with
  | false =>
    have h2 := (if_neg (by decide)).symm.trans HH.out
    injection h2 with h2
    injection h2 with h2 h3
    subst h2 h3
    go_wp2
    refine bodyPost_ret (results_tmp2 rfl _ _ _) rfl ?_
    exact ⟨_, rfl, Kd.R_nil _ _ _ _ _, HB1.out⟩
  | true =>
    have h2 := (if_pos rfl).symm.trans HH.out
    obtain ⟨⟨⟨hok, hok7, hlen⟩, hz6, hz7, hz8⟩, hv⟩ : (([a0, a1, a2, a3, a4].all okNum = true ∧ l7.all okNum = true ∧ (encL a0 a1 a2 a3 a4 a5 l6 l7 l8).length ≤ 1000000000) ∧ l6.length ≤ 1000000 ∧ l7.length ≤ 1000000 ∧ l8.length ≤ 1000000) ∧ some (encL a0 a1 a2 a3 a4 a5 l6 l7 l8, (0 : Int)) = some (r1, r2) := by
      split at h2
      · exact ⟨‹_›, h2⟩
      · cases h2
    injection hv with hv
    injection hv with hv h3
    subst h3
    have HE := Aside0.mk hv
    have HL := Aside0.mk hlen
    have HOK := Aside0.mk hok
    have HOK7 := Aside0.mk hok7
    clear h2 hv hlen hok hok7 HH
    go_wp2_with fail
    obtain ⟨e1, he1⟩ : ∃ e1, e1 = textB a5 ++ (numB (l6.length : Int) 2 ++ (l6.flatMap textB ++ (numB (l7.length : Int) 2 ++ (l7.flatMap (numB · 1) ++ (numB (l8.length : Int) 4 ++ l8.flatMap textB))))) := ⟨_, rfl⟩
    have HT1 := Aside0.mk he1
    have hEE : 2 :: ([a0, a1, a2, a3, a4].flatMap (numB · 6) ++ e1) = r1 := by rw [he1]; exact HE.out
    have HEE := Aside0.mk hEE
    have HLR := Aside0.mk (show r1.length ≤ 1000000000 by rw [← HE.out]; exact HL.out)
    clear he1 hEE HL HE
    have hW0 : Wr ((w1.alloc (.cells #[.int .u8 2] 5)).alloc (.cells #[.slice (some ⟨w1.heap.size, 0, none⟩) 1 1] 41)) w1.heap.size (w1.heap.size + 1) (.slice (some ⟨w1.heap.size, 0, none⟩) 1 1) [2] := by
      refine ⟨by omega, ?_, Kd.R_alloc (Kd.R_of_own (xs := [2]) ⟨rfl, .inr ⟨w1.heap.size, 1, #[.int .u8 2], rfl, Nat.le_refl _, blk_new w1 _, Nat.le_refl _, by unfold maxLen; omega, rfl, rfl⟩⟩ (fun _ _ => trivial)) _⟩
      have := blk_new (w1.alloc (.cells #[.int .u8 2] 5)) (.cells #[.slice (some ⟨w1.heap.size, 0, none⟩) 1 1] 41)
      simpa using this
    have HW0 := Aside0.mk hW0
    have HB0 := Aside0.mk (show Below w1.heap.size w1 ((w1.alloc (.cells #[.int .u8 2] 5)).alloc (.cells #[.slice (some ⟨w1.heap.size, 0, none⟩) 1 1] 41)) from below_alloc (below_alloc (Below.refl _ _) _) _)
    clear hW0
    go_loopw [30] (fun v30 wr => ∃ (j : Nat) (vj : Value) (bj : List Int), v30 = .int .i64 j ∧ j ≤ 5 ∧ Aside0 (Wr wr w1.heap.size (w1.heap.size + 1) vj bj ∧ Below w1.heap.size w1 wr ∧ bj ++ (([a0, a1, a2, a3, a4].drop j).flatMap (numB · 6) ++ e1) = r1)) (fun v30 _ => 5 - (intOf v30).toNat)
    case atStart => exact ⟨0, _, [2], rfl, Nat.zero_le _, ⟨HW0.out, HB0.out, HEE.out⟩⟩
    case round =>
      obtain ⟨j, vj, bj, rfl, hj, HI⟩ := hrel
      have hlb : bj.length ≤ 1000000000 := by have := congrArg List.length HI.out.2.2; have := HLR.out; rw [List.length_append] at *; omega
      by_cases hlt : j < 5
      · have hjj : j = 0 ∨ j = 1 ∨ j = 2 ∨ j = 3 ∨ j = 4 := by omega
        rcases hjj with rfl | rfl | rfl | rfl | rfl
        · have hq : okNum a0 = true := by have := HOK.out; simp only [List.all_cons, List.all_nil, Bool.and_eq_true] at this; exact this.1
          unfold okNum at hq
          rw [Bool.and_eq_true, decide_eq_true_iff, decide_eq_true_iff] at hq
          have HN := Aside0.mk (num_calls a0 hq.1 hq.2 6 (by omega) wr w1.heap.size (w1.heap.size + 1) vj bj HI.out.1 hlb)
          clear hq
          have hix : (Instr.index 42 (.agg #[.int .i64 a0, .int .i64 a1, .int .i64 a2, .int .i64 a3, .int .i64 a4]) (.int .i64 0)).run Tryd.prog wr = .ok (.int .i64 a0) wr := by kernel_rfl
          go_wp2_with (go_at_call 15; refine HN.out.mono ?_; rintro e w3 ⟨v3, rfl, hW3, hB3⟩; have HW3 := Aside0.mk hW3; have HB3 := Aside0.mk hB3; clear hW3 hB3)
          go_roundw
          case rel => exact ⟨1, v3, bj ++ numB a0 6, by go_num, by omega, ⟨HW3.out, HI.out.2.1.trans HB3.out, by rw [List.append_assoc]; exact HI.out.2.2⟩⟩
          case measure => simp [intOf]
        · have hq : okNum a1 = true := by have := HOK.out; simp only [List.all_cons, List.all_nil, Bool.and_eq_true] at this; exact this.2.1
          unfold okNum at hq
          rw [Bool.and_eq_true, decide_eq_true_iff, decide_eq_true_iff] at hq
          have HN := Aside0.mk (num_calls a1 hq.1 hq.2 6 (by omega) wr w1.heap.size (w1.heap.size + 1) vj bj HI.out.1 hlb)
          clear hq
          have hix : (Instr.index 42 (.agg #[.int .i64 a0, .int .i64 a1, .int .i64 a2, .int .i64 a3, .int .i64 a4]) (.int .i64 1)).run Tryd.prog wr = .ok (.int .i64 a1) wr := by kernel_rfl
          go_wp2_with (go_at_call 15; refine HN.out.mono ?_; rintro e w3 ⟨v3, rfl, hW3, hB3⟩; have HW3 := Aside0.mk hW3; have HB3 := Aside0.mk hB3; clear hW3 hB3)
          go_roundw
          case rel => exact ⟨2, v3, bj ++ numB a1 6, by go_num, by omega, ⟨HW3.out, HI.out.2.1.trans HB3.out, by rw [List.append_assoc]; exact HI.out.2.2⟩⟩
          case measure => simp [intOf]
        · have hq : okNum a2 = true := by have := HOK.out; simp only [List.all_cons, List.all_nil, Bool.and_eq_true] at this; exact this.2.2.1
          unfold okNum at hq
          rw [Bool.and_eq_true, decide_eq_true_iff, decide_eq_true_iff] at hq
          have HN := Aside0.mk (num_calls a2 hq.1 hq.2 6 (by omega) wr w1.heap.size (w1.heap.size + 1) vj bj HI.out.1 hlb)
          clear hq
          have hix : (Instr.index 42 (.agg #[.int .i64 a0, .int .i64 a1, .int .i64 a2, .int .i64 a3, .int .i64 a4]) (.int .i64 2)).run Tryd.prog wr = .ok (.int .i64 a2) wr := by kernel_rfl
          go_wp2_with (go_at_call 15; refine HN.out.mono ?_; rintro e w3 ⟨v3, rfl, hW3, hB3⟩; have HW3 := Aside0.mk hW3; have HB3 := Aside0.mk hB3; clear hW3 hB3)
          go_roundw
          case rel => exact ⟨3, v3, bj ++ numB a2 6, by go_num, by omega, ⟨HW3.out, HI.out.2.1.trans HB3.out, by rw [List.append_assoc]; exact HI.out.2.2⟩⟩
          case measure => simp [intOf]
        · have hq : okNum a3 = true := by have := HOK.out; simp only [List.all_cons, List.all_nil, Bool.and_eq_true] at this; exact this.2.2.2.1
          unfold okNum at hq
          rw [Bool.and_eq_true, decide_eq_true_iff, decide_eq_true_iff] at hq
          have HN := Aside0.mk (num_calls a3 hq.1 hq.2 6 (by omega) wr w1.heap.size (w1.heap.size + 1) vj bj HI.out.1 hlb)
          clear hq
          have hix : (Instr.index 42 (.agg #[.int .i64 a0, .int .i64 a1, .int .i64 a2, .int .i64 a3, .int .i64 a4]) (.int .i64 3)).run Tryd.prog wr = .ok (.int .i64 a3) wr := by kernel_rfl
          go_wp2_with (go_at_call 15; refine HN.out.mono ?_; rintro e w3 ⟨v3, rfl, hW3, hB3⟩; have HW3 := Aside0.mk hW3; have HB3 := Aside0.mk hB3; clear hW3 hB3)
          go_roundw
          case rel => exact ⟨4, v3, bj ++ numB a3 6, by go_num, by omega, ⟨HW3.out, HI.out.2.1.trans HB3.out, by rw [List.append_assoc]; exact HI.out.2.2⟩⟩
          case measure => simp [intOf]
        · have hq : okNum a4 = true := by have := HOK.out; simp only [List.all_cons, List.all_nil, Bool.and_eq_true] at this; exact this.2.2.2.2.1
          unfold okNum at hq
          rw [Bool.and_eq_true, decide_eq_true_iff, decide_eq_true_iff] at hq
          have HN := Aside0.mk (num_calls a4 hq.1 hq.2 6 (by omega) wr w1.heap.size (w1.heap.size + 1) vj bj HI.out.1 hlb)
          clear hq
          have hix : (Instr.index 42 (.agg #[.int .i64 a0, .int .i64 a1, .int .i64 a2, .int .i64 a3, .int .i64 a4]) (.int .i64 4)).run Tryd.prog wr = .ok (.int .i64 a4) wr := by kernel_rfl
          go_wp2_with (go_at_call 15; refine HN.out.mono ?_; rintro e w3 ⟨v3, rfl, hW3, hB3⟩; have HW3 := Aside0.mk hW3; have HB3 := Aside0.mk hB3; clear hW3 hB3)
          go_roundw
          case rel => exact ⟨5, v3, bj ++ numB a4 6, by go_num, by omega, ⟨HW3.out, HI.out.2.1.trans HB3.out, by rw [List.append_assoc]; exact HI.out.2.2⟩⟩
          case measure => simp [intOf]
      · obtain rfl : j = 5 := by omega
        have h5 := HI.out.2.2
        have HW5 := Aside0.mk HI.out.1
        have HB5 := Aside0.mk HI.out.2.1
        have HX5 := Aside0.mk (show bj ++ e1 = r1 from h5)
        clear h5 HI hj hlt
        have hm5 := (HB5.out.block _ hlt1).trans HM1.out
        have hc55 := (blk_cell hm5 5).trans rfl
        have HM5 := Aside0.mk hm5
        clear hm5 HOK HEE HW0 HB0
        obtain ⟨e2, he2⟩ : ∃ e2, e2 = l6.flatMap textB ++ (numB (l7.length : Int) 2 ++ (l7.flatMap (numB · 1) ++ (numB (l8.length : Int) 4 ++ l8.flatMap textB))) := ⟨_, rfl⟩
        have HX5b := Aside0.mk (show bj ++ (textB a5 ++ (numB (l6.length : Int) 2 ++ e2)) = r1 by rw [he2, ← HT1.out]; exact HX5.out)
        have HT2 := Aside0.mk he2
        clear he2
        have ha5 : a5.size < 1000000000 := by have h0 := congrArg List.length HX5b.out; have h1 := HLR.out; unfold textB at h0; simp only [List.length_append, numB_len, bytesOf_length] at h0; omega
        go_wp2_with fail
        refine (text_calls a5 ha5 wr w1.heap.size (w1.heap.size + 1) vj bj HW5.out hlb).mono ?_
        rintro e w6 ⟨v6, rfl, hW6, hB6⟩
        obtain ⟨b6, hb6⟩ : ∃ b6, b6 = bj ++ textB a5 := ⟨_, rfl⟩
        rw [← hb6] at hW6
        have HW6 := Aside0.mk hW6
        have HX6 := Aside0.mk (show b6 ++ (numB (l6.length : Int) 2 ++ e2) = r1 by rw [hb6, List.append_assoc]; exact HX5b.out)
        clear hW6 hb6 ha5 HX5b HX5 HW5 HT1 hlb
        have HB6 := Aside0.mk (HB5.out.trans hB6)
        have hm6 := (HB6.out.block _ hlt1).trans HM1.out
        have hc66 := (blk_cell hm6 6).trans rfl
        clear hm6 hB6
        have hlbHX6 : b6.length ≤ 1000000000 := by have h0 := congrArg List.length HX6.out; have h1 := HLR.out; rw [List.length_append] at h0; omega
        go_wp2_with fail
        refine (num_calls (l6.length : Int) (by omega) (by omega) 2 (by omega) w6 w1.heap.size (w1.heap.size + 1) v6 b6 HW6.out hlbHX6).mono ?_
        rintro e w7 ⟨v7, rfl, hW7, hB7⟩
        obtain ⟨b7, hb7⟩ : ∃ b7, b7 = b6 ++ numB (l6.length : Int) 2 := ⟨_, rfl⟩
        rw [← hb7] at hW7
        have HW7 := Aside0.mk hW7
        have HX7 := Aside0.mk (show b7 ++ e2 = r1 by rw [hb7, List.append_assoc]; exact HX6.out)
        clear hW7 hb7 HX6 HW6 hlbHX6
        have HB7 := Aside0.mk (HB6.out.trans hB7)
        have hm7 := (HB7.out.block _ hlt1).trans HM1.out
        have hc76 := (blk_cell hm7 6).trans rfl
        clear hm7 hB7
        obtain ⟨e3, he3⟩ : ∃ e3, e3 = l7.flatMap (numB · 1) ++ (numB (l8.length : Int) 4 ++ l8.flatMap textB) := ⟨_, rfl⟩
        have HX7b := Aside0.mk (show b7 ++ (l6.flatMap textB ++ (numB (l7.length : Int) 2 ++ e3)) = r1 by rw [he3, ← HT2.out]; exact HX7.out)
        clear HX7
        go_wp2_with fail
        go_loopw [49] (fun vs wr10 => ∃ (j : Nat) (vj : Value) (bj : List Int), vs = .int .i64 j ∧ j ≤ l6.length ∧ Aside0 (Wr wr10 w1.heap.size (w1.heap.size + 1) vj bj ∧ Below w1.heap.size w1 wr10 ∧ bj ++ ((l6.drop j).flatMap textB ++ (numB (l7.length : Int) 2 ++ e3)) = r1)) (fun vs _ => l6.length - (intOf vs).toNat)
        case atStart => exact ⟨0, _, _, rfl, Nat.zero_le _, ⟨HW7.out, HB7.out, HX7b.out⟩⟩
        case round =>
          obtain ⟨j, v10, b10, rfl, hj, HI⟩ := hrel
          have hlb : b10.length ≤ 1000000000 := by have h0 := congrArg List.length HI.out.2.2; have h1 := HLR.out; rw [List.length_append] at h0; omega
          by_cases hlt : j < l6.length
          · obtain ⟨ad, rfl, hx⟩ := Kd.at_string HR6.out (j : Int) (by omega) (by omega)
            rw [Int.toNat_natCast] at hx
            have hxr := pw_cell_below (below_step HB1.out HI.out.2.1) hx
            have hrd : rdOf ByteArray.empty l6 (j : Int) = l6[j] := by unfold rdOf; simp [List.getD_eq_getElem?_getD, hlt]
            rw [hrd] at hxr
            have hX := HI.out.2.2
            rw [List.drop_eq_getElem_cons hlt, List.flatMap_cons, List.append_assoc] at hX
            have HXj := Aside0.mk hX
            clear hx hrd
            obtain ⟨y, hy⟩ : ∃ y, y = l6[j] := ⟨_, rfl⟩
            rw [← hy] at hxr HXj
            have hys : y.size < 1000000000 := by have h0 := congrArg List.length HXj.out; have h1 := HLR.out; unfold textB at h0; simp only [List.length_append, numB_len, bytesOf_length] at h0; omega
            have HN := Aside0.mk (text_calls y hys wr w1.heap.size (w1.heap.size + 1) v10 b10 HI.out.1 hlb)
            clear hy hX hys
            go_wp2_with (go_at_call 16; refine HN.out.mono ?_; rintro e w3 ⟨v3, rfl, hW3, hB3⟩; have HW3 := Aside0.mk hW3; have HB3 := Aside0.mk hB3; clear hW3 hB3)
            go_roundw
            case rel => exact ⟨j + 1, v3, b10 ++ textB y, by go_num, by omega, ⟨HW3.out, HI.out.2.1.trans HB3.out, by rw [List.append_assoc]; exact HXj.out⟩⟩
            case measure => simp [intOf]; omega
          · obtain rfl : j = l6.length := by omega
            have hX := HI.out.2.2
            rw [List.drop_length, List.flatMap_nil, List.nil_append] at hX
            have HX10 := Aside0.mk hX
            have HW10 := Aside0.mk HI.out.1
            have HB10 := Aside0.mk HI.out.2.1
            have hlb10 := hlb
            clear hX HI hj hlt hlb
            have hm10 := (HB10.out.block _ hlt1).trans HM1.out
            have hc107 := (blk_cell hm10 7).trans rfl
            clear hm10
            go_wp2_with fail
            refine (num_calls (l7.length : Int) (by omega) (by omega) 2 (by omega) wr w1.heap.size (w1.heap.size + 1) v10 b10 HW10.out hlb10).mono ?_
            rintro e w11 ⟨v11, rfl, hW11, hB11⟩
            obtain ⟨b11, hb11⟩ : ∃ b11, b11 = b10 ++ numB (l7.length : Int) 2 := ⟨_, rfl⟩
            rw [← hb11] at hW11
            have HW11 := Aside0.mk hW11
            have HX11 := Aside0.mk (show b11 ++ e3 = r1 by rw [hb11, List.append_assoc]; exact HX10.out)
            have HB11 := Aside0.mk (HB10.out.trans hB11)
            clear hW11 hb11 hB11 HX10 HW10 hlb10
            have hm11 := (HB11.out.block _ hlt1).trans HM1.out
            have hc117 := (blk_cell hm11 7).trans rfl
            clear hm11
            obtain ⟨e4, he4⟩ : ∃ e4, e4 = l8.flatMap textB := ⟨_, rfl⟩
            have HX11b := Aside0.mk (show b11 ++ (l7.flatMap (numB · 1) ++ (numB (l8.length : Int) 4 ++ e4)) = r1 by rw [he4, ← he3]; exact HX11.out)
            clear HX11 he3
            go_wp2_with fail
            go_loopw [65] (fun vs wr12 => ∃ (j : Nat) (vj : Value) (bj : List Int), vs = .int .i64 j ∧ j ≤ l7.length ∧ Aside0 (Wr wr12 w1.heap.size (w1.heap.size + 1) vj bj ∧ Below w1.heap.size w1 wr12 ∧ bj ++ ((l7.drop j).flatMap (numB · 1) ++ (numB (l8.length : Int) 4 ++ e4)) = r1)) (fun vs _ => l7.length - (intOf vs).toNat)
            case atStart => exact ⟨0, _, _, rfl, Nat.zero_le _, ⟨HW11.out, HB11.out, HX11b.out⟩⟩
            case round =>
              obtain ⟨j, v12, b12, rfl, hj, HI⟩ := hrel
              have hlb : b12.length ≤ 1000000000 := by have h0 := congrArg List.length HI.out.2.2; have h1 := HLR.out; rw [List.length_append] at h0; omega
              by_cases hlt : j < l7.length
              · obtain ⟨ad, rfl, hx⟩ := Kd.at_int HR7.out (j : Int) (by omega) (by omega)
                rw [Int.toNat_natCast] at hx
                have hxr := pw_cell_below (below_step HB1.out HI.out.2.1) hx
                have hrd : rd l7 (j : Int) = l7[j] := by unfold rd; simp [List.getD_eq_getElem?_getD, hlt]
                rw [hrd] at hxr
                have hX := HI.out.2.2
                rw [List.drop_eq_getElem_cons hlt, List.flatMap_cons, List.append_assoc] at hX
                have HXj := Aside0.mk hX
                clear hx hrd
                obtain ⟨y, hy⟩ : ∃ y, y = l7[j] := ⟨_, rfl⟩
                have hq : okNum l7[j] = true := List.all_eq_true.1 HOK7.out _ (List.getElem_mem hlt)
                rw [← hy] at hq
                unfold okNum at hq
                rw [Bool.and_eq_true, decide_eq_true_iff, decide_eq_true_iff] at hq
                rw [← hy] at hxr HXj
                have HN := Aside0.mk (num_calls y hq.1 hq.2 1 (by omega) wr w1.heap.size (w1.heap.size + 1) v12 b12 HI.out.1 hlb)
                clear hy hX hq
                go_wp2_with (go_at_call 15; refine HN.out.mono ?_; rintro e w3 ⟨v3, rfl, hW3, hB3⟩; have HW3 := Aside0.mk hW3; have HB3 := Aside0.mk hB3; clear hW3 hB3)
                go_roundw
                case rel => exact ⟨j + 1, v3, b12 ++ numB y 1, by go_num, by omega, ⟨HW3.out, HI.out.2.1.trans HB3.out, by rw [List.append_assoc]; exact HXj.out⟩⟩
                case measure => simp [intOf]; omega
              · obtain rfl : j = l7.length := by omega
                have hX := HI.out.2.2
                rw [List.drop_length, List.flatMap_nil, List.nil_append] at hX
                have HX12 := Aside0.mk hX
                have HW12 := Aside0.mk HI.out.1
                have HB12 := Aside0.mk HI.out.2.1
                have hlb12 := hlb
                clear hX HI hj hlt hlb
                have hm12 := (HB12.out.block _ hlt1).trans HM1.out
                have hc128 := (blk_cell hm12 8).trans rfl
                clear hm12
                go_wp2_with fail
                refine (num_calls (l8.length : Int) (by omega) (by omega) 4 (by omega) wr w1.heap.size (w1.heap.size + 1) v12 b12 HW12.out hlb12).mono ?_
                rintro e w13 ⟨v13, rfl, hW13, hB13⟩
                obtain ⟨b13, hb13⟩ : ∃ b13, b13 = b12 ++ numB (l8.length : Int) 4 := ⟨_, rfl⟩
                rw [← hb13] at hW13
                have HW13 := Aside0.mk hW13
                have HX13 := Aside0.mk (show b13 ++ e4 = r1 by rw [hb13, List.append_assoc]; exact HX12.out)
                have HB13 := Aside0.mk (HB12.out.trans hB13)
                clear hW13 hb13 hB13 HX12 HW12 hlb12
                have hm13 := (HB13.out.block _ hlt1).trans HM1.out
                have hc138 := (blk_cell hm13 8).trans rfl
                clear hm13
                have HX13b := Aside0.mk (show b13 ++ (l8.flatMap textB ++ []) = r1 by rw [List.append_nil, ← he4]; exact HX13.out)
                clear HX13 he4
                go_wp2_with fail
                go_loopw [81] (fun vs wr14 => ∃ (j : Nat) (vj : Value) (bj : List Int), vs = .int .i64 j ∧ j ≤ l8.length ∧ Aside0 (Wr wr14 w1.heap.size (w1.heap.size + 1) vj bj ∧ Below w1.heap.size w1 wr14 ∧ bj ++ ((l8.drop j).flatMap textB ++ []) = r1)) (fun vs _ => l8.length - (intOf vs).toNat)
                case atStart => exact ⟨0, _, _, rfl, Nat.zero_le _, ⟨HW13.out, HB13.out, HX13b.out⟩⟩
                case round =>
                  obtain ⟨j, v14, b14, rfl, hj, HI⟩ := hrel
                  have hlb : b14.length ≤ 1000000000 := by have h0 := congrArg List.length HI.out.2.2; have h1 := HLR.out; rw [List.length_append] at h0; omega
                  by_cases hlt : j < l8.length
                  · obtain ⟨ad, rfl, hx⟩ := Kd.at_string HR8.out (j : Int) (by omega) (by omega)
                    rw [Int.toNat_natCast] at hx
                    have hxr := pw_cell_below (below_step HB1.out HI.out.2.1) hx
                    have hrd : rdOf ByteArray.empty l8 (j : Int) = l8[j] := by unfold rdOf; simp [List.getD_eq_getElem?_getD, hlt]
                    rw [hrd] at hxr
                    have hX := HI.out.2.2
                    rw [List.drop_eq_getElem_cons hlt, List.flatMap_cons, List.append_assoc] at hX
                    have HXj := Aside0.mk hX
                    clear hx hrd
                    obtain ⟨y, hy⟩ : ∃ y, y = l8[j] := ⟨_, rfl⟩
                    rw [← hy] at hxr HXj
                    have hys : y.size < 1000000000 := by have h0 := congrArg List.length HXj.out; have h1 := HLR.out; unfold textB at h0; simp only [List.length_append, numB_len, bytesOf_length] at h0; omega
                    have HN := Aside0.mk (text_calls y hys wr w1.heap.size (w1.heap.size + 1) v14 b14 HI.out.1 hlb)
                    clear hy hX hys
                    go_wp2_with (go_at_call 16; refine HN.out.mono ?_; rintro e w3 ⟨v3, rfl, hW3, hB3⟩; have HW3 := Aside0.mk hW3; have HB3 := Aside0.mk hB3; clear hW3 hB3)
                    go_roundw
                    case rel => exact ⟨j + 1, v3, b14 ++ textB y, by go_num, by omega, ⟨HW3.out, HI.out.2.1.trans HB3.out, by rw [List.append_assoc]; exact HXj.out⟩⟩
                    case measure => simp [intOf]; omega
                  · obtain rfl : j = l8.length := by omega
                    have hX := HI.out.2.2
                    rw [List.drop_length, List.flatMap_nil, List.nil_append] at hX
                    have HX14 := Aside0.mk hX
                    have HW14 := Aside0.mk HI.out.1
                    have HB14 := Aside0.mk HI.out.2.1
                    have hlb14 := hlb
                    clear hX HI hj hlt hlb
                    obtain ⟨A14, c14, rfl⟩ := Kd.R_slice HW14.out.row
                    have hcw := (blk_cell HW14.out.cell 0).trans rfl
                    have hX14 := HX14.out
                    rw [List.append_nil] at hX14
                    subst hX14
                    go_wp2
                    refine bodyPost_ret (results_tmp2 rfl _ _ _) rfl ?_
                    exact ⟨_, rfl, Kd.R_lower HW14.out.row (by omega), below_step HB1.out HB14.out⟩
end Go.Proofs.YtljhfaneepehcaaDoor.Hand
