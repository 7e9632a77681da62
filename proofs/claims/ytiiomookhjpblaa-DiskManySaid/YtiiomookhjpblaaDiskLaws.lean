/- The laws of the disk, walked by hand: answers. -/
import Derived.Test.YtiiomookhjpblaaDiskDk
namespace Go.Proofs.Ytiiomookhjpblaa.Hand
open Go.RowKit Go.Maps Go.Proofs.YtiiomookhjpblaaW.PrintWords Go.Proofs.YtiiomookhjpblaaW.PrintLast Go.Proofs.YtiiomookhjpblaaW.PrintMore
set_option linter.unusedVariables false
set_option linter.unusedSimpArgs false
theorem newS_ok (n : Int) : (newS n).Ok := ⟨by unfold newS; simp, by unfold newS; simp, Nat.zero_le _, Nat.zero_le _, by unfold newS; simp [used, looseB], (fun _ h => by cases h), (fun _ h => by cases h)⟩
def nA : ByteArray := ⟨#[97]⟩
theorem nA_size : nA.size ≤ maxLen := by unfold maxLen; decide
def wrA (b : By) : Wr := ⟨0, nA, ⟨#[]⟩, b⟩
def st9 : DSt := ⟨[], [wrA [120, 121, 122]], 9, -1, false⟩
def st9' : DSt := ⟨[(nA, [120, 121])], [], 9, -1, false⟩
theorem st9_ok : st9.Ok := ⟨by decide, by decide, by decide, by decide, by decide, (fun _ h => by cases h), (fun w h => by rw [List.mem_singleton.1 h]; decide)⟩
theorem st9'_ok : st9'.Ok := ⟨by decide, by decide, by decide, by decide, by decide, (fun w h => by rw [List.mem_singleton.1 h]; decide), (fun _ h => by cases h)⟩
theorem a9_1 : appendR (newS 9) nA 3 = 0 := by decide +kernel
theorem a9_2 : appendS (newS 9) nA [120, 121, 122] = st9 := by kernel_rfl
theorem a9_3 : crashS st9 0 2 = st9' := by kernel_rfl
theorem a9_4 : readR st9' nA = 0 := by decide +kernel
theorem a9_5 : readB st9' nA = [120, 121] := by decide +kernel
theorem a9_6 : used st9'.now = 2 := by decide +kernel
/-- '[]byte("..")': a row of constants, marked. -/
theorem bytes_const (W : World) (l : By) (hl : l.length ≤ 1000000) :
    (convert 27 27 (.slice (some ⟨W.heap.size, 0, none⟩) l.length l.length)).run Try.prog (W.alloc (.cells (((numsL l).map (Value.int .u8)).toArray) 5)) = .ok (.slice (some ⟨W.heap.size, 0, none⟩) l.length l.length) (W.alloc (.cells (((numsL l).map (Value.int .u8)).toArray) 5 (l.length, l.length + 1))) ∧
    CB (W.alloc (.cells (((numsL l).map (Value.int .u8)).toArray) 5 (l.length, l.length + 1))) (some ⟨W.heap.size, 0, none⟩) l := by
  refine ⟨?_, C_block (blk_new W _) rfl (by rw [nums_len]; omega)⟩
  have := Lib.run_convert_bytes_const (P := Try.prog) W 27 5 (((numsL l).map (Value.int .u8)).toArray) l.length l.length Try.underlying27 Try.underlying5
  simpa [nums_len] using this
/-- '[]byte{..}': a row of constants. -/
theorem bytes_lit (W : World) (l : By) (hl : l.length ≤ 1000000) : CB (W.alloc (.cells (((numsL l).map (Value.int .u8)).toArray) 5)) (some ⟨W.heap.size, 0, none⟩) l := C_block (blk_new W _) rfl (by rw [nums_len]; omega)
/-- string(b). -/
theorem to_string {W : World} {A : Option Addr} {l : By} (h : CB W A l) (c : Nat) : (convert 27 9 (.slice A l.length c)).run Try.prog W = .ok (.string (mkS l)) W := by
  have := Kd.C_string (c := c) Try.underlying27 Try.underlying5 Try.underlying9 h
  rw [str_nums, nums_len] at this
  exact this
theorem u8_range {x : Int} (h : (Lit.int .u8 x).wf = true) : 0 ≤ x ∧ x ≤ 255 := by simpa [Lit.wf, IntKind.min, IntKind.max, IntKind.signed, IntKind.bits] using h
theorem nums_of (xs : List Int) (h : ∀ x ∈ xs, (Lit.int .u8 x).wf = true) : ∃ l : By, xs = numsL l := by
  induction xs with
  | nil => exact ⟨[], rfl⟩
  | cons x xs ih =>
    obtain ⟨l, rfl⟩ := ih (fun y hy => h y (List.mem_cons_of_mem _ hy))
    have hr := u8_range (h x List.mem_cons_self)
    refine ⟨UInt8.ofNat x.toNat :: l, ?_⟩
    unfold numsL
    rw [List.map_cons]
    congr 1
    rw [UInt8.toNat_ofNat_of_lt' (by show x.toNat < 256; omega)]
    omega
set_option maxHeartbeats 8000000 in
theorem answers_calls (w : World) : Calls Try.prog 13 #[] w fun e w' => e = .returned (.bool true) ∧ Below w.heap.size w w' := by
  have HNW := Aside0.mk (New_dk w 9)
  go_enter Try.func13, Try.ntmps13
  go_wp2_with fail
  refine HNW.out.mono ?_
  rintro e w1 ⟨p, rfl, hD1, hB1⟩
  have kc : (convert 27 27 (.slice (some ⟨w1.heap.size, 0, none⟩) 3 3)).run Try.prog (w1.alloc (.cells #[.int .u8 120, .int .u8 121, .int .u8 122] 5)) = .ok (.slice (some ⟨w1.heap.size, 0, none⟩) 3 3) (w1.alloc (.cells #[.int .u8 120, .int .u8 121, .int .u8 122] 5 (3, 4))) := (bytes_const w1 [120, 121, 122] (by decide)).1
  have hC : CB (w1.alloc (.cells #[.int .u8 120, .int .u8 121, .int .u8 122] 5 (3, 4))) (some ⟨w1.heap.size, 0, none⟩) [120, 121, 122] := (bytes_const w1 [120, 121, 122] (by decide)).2
  have hb1 := below_alloc (Below.refl w1.heap.size w1) (.cells #[.int .u8 120, .int .u8 121, .int .u8 122] 5 (3, 4))
  have HA := Aside0.mk ((hD1.below hb1).app (newS_ok 9) nA nA_size _ 3 [120, 121, 122] hC (by decide) a9_1 a9_2)
  have HB1 := Aside0.mk (hB1.trans (hb1.mono hB1.size))
  clear hC hD1 hB1 hb1
  go_wp2_with fail
  refine HA.out.mono ?_
  rintro e w2 ⟨rfl, hD2, hB2⟩
  have HC2 := Aside0.mk (hD2.crash st9_ok 0 2 a9_3)
  have HB2 := Aside0.mk (HB1.out.trans hB2)
  clear hD2 hB2 kc
  go_wp2_with fail
  refine HC2.out.mono ?_
  rintro e w3 ⟨rfl, hD3, hB3⟩
  have HR := Aside0.mk (hD3.read st9'_ok nA nA_size a9_4 a9_5)
  have HB3 := Aside0.mk (HB2.out.trans hB3)
  clear hD3 hB3
  go_wp2_with fail
  refine HR.out.mono ?_
  rintro e w4 ⟨A4, c4, rfl, hC4, hD4, hB4⟩
  have hs4 : (convert 27 9 (.slice A4 2 c4)).run Try.prog w4 = .ok (.string ⟨#[120, 121]⟩) w4 := to_string hC4 c4
  have HU := Aside0.mk (hD4.usd st9'_ok a9_6)
  have HB4 := Aside0.mk (HB3.out.trans hB4)
  clear hD4 hB4 hC4
  go_wp2_with fail
  refine HU.out.mono ?_
  rintro e w5 ⟨rfl, hD5, hB5⟩
  have HB5 := Aside0.mk (HB4.out.trans hB5)
  clear hD5 hB5
  go_wp2
  go_ret
  exact ⟨rfl, HB5.out⟩
end Go.Proofs.Ytiiomookhjpblaa.Hand
