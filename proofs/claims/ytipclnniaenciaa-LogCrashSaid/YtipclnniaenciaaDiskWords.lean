/- Words for laws over a disk: bytes out of constants, strings, numbers' ranges. -/
import Derived.Test.YtipclnniaenciaaDiskDk
namespace Go.Proofs.Ytipclnniaenciaa.Hand
open Go.RowKit Go.Maps Go.Proofs.YtipclnniaenciaaW.PrintWords Go.Proofs.YtipclnniaenciaaW.PrintLast Go.Proofs.YtipclnniaenciaaW.PrintMore
set_option linter.unusedVariables false
set_option linter.unusedSimpArgs false
theorem newS_ok (n : Int) : (newS n).Ok := ⟨by unfold newS; simp, by unfold newS; simp, Nat.zero_le _, Nat.zero_le _, by unfold newS; simp [used, looseB], (fun _ h => by cases h), (fun _ h => by cases h)⟩
/-- '[]byte("..")': a row of constants, marked. -/
theorem bytes_const (W : World) (l : By) (hl : l.length ≤ 1000000) :
    (convert 22 22 (.slice (some ⟨W.heap.size, 0, none⟩) l.length l.length)).run Try.prog (W.alloc (.cells (((numsL l).map (Value.int .u8)).toArray) 5)) = .ok (.slice (some ⟨W.heap.size, 0, none⟩) l.length l.length) (W.alloc (.cells (((numsL l).map (Value.int .u8)).toArray) 5 (l.length, l.length + 1))) ∧
    CB (W.alloc (.cells (((numsL l).map (Value.int .u8)).toArray) 5 (l.length, l.length + 1))) (some ⟨W.heap.size, 0, none⟩) l := by
  refine ⟨?_, C_block (blk_new W _) rfl (by rw [nums_len]; omega)⟩
  have := Lib.run_convert_bytes_const (P := Try.prog) W 22 5 (((numsL l).map (Value.int .u8)).toArray) l.length l.length Try.underlying22 Try.underlying5
  simpa [nums_len] using this
/-- '[]byte{..}': a row of constants. -/
theorem bytes_lit (W : World) (l : By) (hl : l.length ≤ 1000000) : CB (W.alloc (.cells (((numsL l).map (Value.int .u8)).toArray) 5)) (some ⟨W.heap.size, 0, none⟩) l := C_block (blk_new W _) rfl (by rw [nums_len]; omega)
/-- string(b). -/
theorem to_string {W : World} {A : Option Addr} {l : By} (h : CB W A l) (c : Nat) : (convert 22 9 (.slice A l.length c)).run Try.prog W = .ok (.string (mkS l)) W := by
  have := Kd.C_string (c := c) Try.underlying22 Try.underlying5 Try.underlying9 h
  rw [str_nums, nums_len] at this
  exact this
theorem u8_range {x : Int} (h : (Lit.int .u8 x).wf = true) : 0 ≤ x ∧ x ≤ 255 := by simpa [Lit.wf, IntKind.min, IntKind.max, IntKind.signed, IntKind.bits] using h
theorem nums_of (xs : List Int) (h : ∀ x ∈ xs, (Lit.int .u8 x).wf = true) : ∃ l : By, xs = numsL l := by
  induction xs with
  | nil => exact ⟨[], rfl⟩
  | cons x xs ih =>
    obtain ⟨l, rfl⟩ := ih (fun y hy => h y (List.mem_cons_of_mem _ hy))
    have hr := u8_range (h x List.mem_cons_self)
    refine ⟨UInt8.ofNat x.toNat :: l, ?_⟩
    unfold numsL
    rw [List.map_cons]
    congr 1
    rw [UInt8.toNat_ofNat_of_lt' (by show x.toNat < 256; omega)]
    omega
end Go.Proofs.Ytipclnniaenciaa.Hand
