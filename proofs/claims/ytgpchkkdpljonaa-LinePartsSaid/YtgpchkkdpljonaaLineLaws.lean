/- line's laws, walked by hand over the reader's contracts: answers, LineNone, LineBounds. -/
import Derived.Test.YtgpchkkdpljonaaHandReader
namespace Go.Proofs.Ytgpchkkdpljonaa.Hand
open Go.RowKit Go.Proofs.YtgpchkkdpljonaaW.PrintWords Go.Proofs.YtgpchkkdpljonaaW.PrintLast Go.Proofs.YtgpchkkdpljonaaW.PrintMore
set_option linter.unusedVariables false
set_option linter.unusedSimpArgs false
theorem Rdr.below {w w1 : World} {base p : Nat} {v : Value} {l : List UInt8} (h : Rdr w base p v l) (hb : Below w.heap.size w w1) : Rdr w1 base p v l := ⟨h.1, blk_below h.2.1 hb, Kd.R_below h.2.2 hb⟩
theorem Feed_nil (w : World) (x : Value) :
    Calls Try.prog 9 #[.pointer none, x] w fun e w' => e = .returned (.tuple #[]) ∧ w' = w := by
  go_enter Try.func9, Try.ntmps9
  go_wp2
  refine bodyPost_end (results_none rfl _ _ _) rfl ?_
  exact ⟨rfl, rfl⟩
theorem Left_nil (w : World) :
    Calls Try.prog 12 #[.pointer none] w fun e w' => e = .returned (.int .i64 0) ∧ w' = w := by
  go_enter Try.func12, Try.ntmps12
  go_wp2
  go_ret
  exact ⟨rfl, rfl⟩
theorem Next_nil (w : World) (n : Int) :
    Calls Try.prog 10 #[.pointer none, .int .i64 n] w fun e w' => e = .returned (.tuple #[.agg #[.int .i64 0, .string ⟨#[]⟩], .bool false]) ∧ Below w.heap.size w w' := by
  go_enter Try.func10, Try.ntmps10
  go_wp2
  refine bodyPost_ret (results_ct rfl _ _ w.heap.size 29 #[.int .i64 0, .string (⟨#[]⟩ : ByteArray)] (0, 0) _ rfl (blk_new _ _) rfl rfl rfl) rfl ?_
  exact ⟨rfl, below_alloc (Below.refl _ _) _⟩
theorem next_ans : nextL 9 [97, 13, 10, 98] = ((1, ⟨#[97]⟩, true), [98]) := by rfl
set_option maxHeartbeats 4000000 in
theorem answers_calls (w : World) (m : Int) (hm : w.cell? ⟨0, 0, none⟩ = some (.int .i64 m)) :
    Calls Try.prog 7 #[] w fun e w' => e = .returned (.bool true) ∧ Below w.heap.size w w' := by
  have h0 := World.block_lt_of_cell? w _ hm
  go_enter Try.func7, Try.ntmps7
  have kc : ∀ (X : Obj), (convert 22 22 (.slice (some ⟨w.heap.size + 1, 0, none⟩) 4 4)).run Try.prog ((w.alloc X).alloc (.cells #[.int .u8 97, .int .u8 13, .int .u8 10, .int .u8 98] 5)) = .ok (.slice (some ⟨w.heap.size + 1, 0, none⟩) 4 4) ((w.alloc X).alloc (.cells #[.int .u8 97, .int .u8 13, .int .u8 10, .int .u8 98] 5 (4, 5))) := fun X => by
    have := Lib.run_convert_bytes_const (P := Try.prog) (w.alloc X) 22 5 #[.int .u8 97, .int .u8 13, .int .u8 10, .int .u8 98] 4 4 Try.underlying22 Try.underlying5
    simpa using this
  go_wp2_with (go_at_call 8; refine (New_calls _).mono ?_; rintro e w1 ⟨rfl, rfl⟩)
  have hbA : Below w.heap.size w ((w.alloc (.cells #[.slice none 0 0] 42)).alloc (.cells #[.int .u8 97, .int .u8 13, .int .u8 10, .int .u8 98] 5 (4, 5))) := below_alloc (below_alloc (Below.refl _ _) _) _
  have hRA := (Rdr.new w w.heap.size (Nat.le_refl _)).below (below_alloc (Below.refl _ _) (.cells #[.int .u8 97, .int .u8 13, .int .u8 10, .int .u8 98] 5 (4, 5)))
  have hbk : ((w.alloc (.cells #[.slice none 0 0] 42)).alloc (.cells #[.int .u8 97, .int .u8 13, .int .u8 10, .int .u8 98] 5 (4, 5))).heap[w.heap.size + 1]? = some (.cells #[.int .u8 97, .int .u8 13, .int .u8 10, .int .u8 98] 5 (4, 5)) := by
    have e : (w.alloc (.cells #[.slice none 0 0] 42)).heap.size = w.heap.size + 1 := Array.size_push ..
    rw [← e]
    exact heap_alloc_new (w.alloc _) _
  refine (Feed_calls _ w.heap.size w.heap.size _ [] [97, 13, 10, 98] _ _ hRA hbA.size (C_block hbk rfl (by simp [numsL])) (by simp)).mono ?_
  rintro e w2 ⟨v2, rfl, hR2, hb2, hk2, hv2⟩
  have HB2 := Aside0.mk (hbA.trans hb2)
  have HR2 := Aside0.mk hR2
  clear hbA hRA hbk hR2 hb2 hk2 hv2
  go_wp2_with fail
  have hm2 : w2.cell? ⟨0, 0, none⟩ = some (.int .i64 m) := (HB2.out.cell (p := ⟨0, 0, none⟩) h0).trans hm
  refine (Next_calls _ w.heap.size w.heap.size _ _ 9 m HR2.out HB2.out.size (by simp) hm2).mono ?_
  rintro e w3 ⟨v3, rfl, hR3, hb3, hk3, hv3⟩
  rw [List.nil_append, next_ans] at hR3 ⊢
  have HB3 := Aside0.mk (HB2.out.trans hb3)
  have HR3 := Aside0.mk hR3
  clear hR3 hb3 hk3 hv3
  go_wp2_with (go_at_call 12; refine (Left_calls _ _ _ _ _ (HR3.out.below (below_alloc (Below.refl _ _) _))).mono ?_; rintro e w4 ⟨rfl, rfl⟩)
  go_ret
  exact ⟨rfl, below_then HB3.out HB3.out.size (below_alloc (Below.refl _ _) _)⟩
set_option maxHeartbeats 4000000 in
theorem LineNone_calls (A : Option Addr) (n c : Nat) (k m : Int) (w : World) (hm : w.cell? ⟨0, 0, none⟩ = some (.int .i64 m)) :
    Calls Try.prog 5 #[.slice A n c, .int .i64 k] w fun e w' => e = .returned (.bool true) ∧ Below w.heap.size w w' := by
  have h0 := World.block_lt_of_cell? w _ hm
  go_enter Try.func5, Try.ntmps5
  have HA : Aside0 (∀ W, Below w.heap.size w W → Calls Try.prog 7 #[] W fun e w' => e = .returned (.bool true) ∧ Below W.heap.size W w') := ⟨fun W hW => answers_calls W m ((hW.cell (p := ⟨0, 0, none⟩) h0).trans hm)⟩
  go_wp2_with (go_at_call 9; refine (Feed_nil _ _).mono ?_; rintro e w1 ⟨rfl, rfl⟩)
  refine (Next_nil w1 k).mono ?_
  rintro e w2 ⟨rfl, hb2⟩
  have HB2 := Aside0.mk hb2
  clear hb2
  go_wp2_with (first | (go_at_call 12; refine (Left_nil _).mono ?_; rintro e w4 ⟨rfl, hw4⟩; rw [hw4]) | (go_at_call 7; refine (HA.out _ (below_alloc HB2.out _)).mono ?_; rintro e w3 ⟨rfl, hb3⟩; have hlb := blk_below (blk_new w2 (.cells #[.int .i64 0, .string ⟨#[]⟩] 29)) hb3; have hl0 := (blk_cell hlb 0).trans rfl; have hl1 := (blk_cell hlb 1).trans rfl; have HB3 := Aside0.mk hb3; clear hb3 hlb))
  go_ret
  exact ⟨rfl, below_step (below_alloc HB2.out _) HB3.out⟩
theorem ref_l0 (b : List UInt8) : ∀ (n : Nat) (k : Nat) (i : Nat), b.length - i < k → i ≤ b.length → (∀ c ∈ b.take i, (c == 0 || c == 13 || c == 10) = false) → n = b.length - i → b.length < 1000000000 →
    PB.estafetteref01_Line.l0 k (numsL b) (i : Int) = some (if b.any (fun c => c == 0 || c == 13 || c == 10) then ((3 : Int), (⟨#[]⟩ : ByteArray)) else (1, mkS b)) := by
  intro n
  induction n with
  | zero =>
    intro k i hk hi hc hn hb
    obtain ⟨k, rfl⟩ : ∃ k', k = k' + 1 := ⟨k - 1, by omega⟩
    obtain rfl : i = b.length := by omega
    rw [List.take_length] at hc
    have ha : b.any (fun c => c == 0 || c == 13 || c == 10) = false := List.any_eq_false.2 (fun c h => by rw [hc c h]; simp)
    rw [PB.estafetteref01_Line.l0, nums_len, if_neg (by omega), ha, str_nums]
    rfl
  | succ n ih =>
    intro k i hk hi hc hn hb
    obtain ⟨k, rfl⟩ : ∃ k', k = k' + 1 := ⟨k - 1, by omega⟩
    have hi' : i < b.length := by omega
    have hrd : rd (numsL b) (i : Int) = (b[i].toNat : Int) := by
      unfold rd numsL
      rw [Int.toNat_natCast]
      simp [List.getD_eq_getElem?_getD, List.getElem?_map, List.getElem?_eq_getElem hi']
    have hany : ∀ x, b[i] = x → (x == 0 || x == 13 || x == 10) = true → b.any (fun c => c == 0 || c == 13 || c == 10) = true := fun x hx h => List.any_eq_true.2 ⟨b[i], List.getElem_mem hi', by rw [hx]; exact h⟩
    rw [PB.estafetteref01_Line.l0, nums_len, if_pos (by omega), if_pos (by omega), hrd]
    by_cases h0 : b[i] = 0
    · rw [if_pos (by rw [h0]; rfl), hany 0 h0 rfl]
      rfl
    rw [if_neg (fun e => h0 (UInt8.toNat_inj.1 (by have : (b[i].toNat : Int) = ((0 : UInt8).toNat : Int) := e; omega)))]
    by_cases h1 : b[i] = 10
    · rw [if_pos (by rw [h1]; rfl), hany 10 h1 rfl]
      rfl
    rw [if_neg (fun e => h1 (UInt8.toNat_inj.1 (by have : (b[i].toNat : Int) = ((10 : UInt8).toNat : Int) := e; omega)))]
    by_cases h2 : b[i] = 13
    · rw [if_pos (by rw [h2]; rfl), hany 13 h2 rfl]
      rfl
    rw [if_neg (fun e => h2 (UInt8.toNat_inj.1 (by have : (b[i].toNat : Int) = ((13 : UInt8).toNat : Int) := e; omega)))]
    have hw : wrap64 ((i : Int) + 1) = ((i + 1 : Nat) : Int) := by rw [Go.IntWalk.wrap64_in _ (by omega)]; omega
    rw [hw]
    refine ih k (i + 1) (by omega) (by omega) (fun c hcm => ?_) (by omega) hb
    rw [List.take_succ_eq_append_getElem hi', List.mem_append] at hcm
    rcases hcm with hcm | hcm
    · exact hc c hcm
    · rw [List.mem_singleton] at hcm
      rw [hcm]
      simp [h0, h1, h2]
theorem ref_line (b : List UInt8) (most : Int) (k : Nat) (hk : b.length < k) (hb : b.length < 1000000000) : PB.estafetteref01_Line.f k (numsL b) most = some ((lineOf most b).1, (lineOf most b).2) := by
  unfold PB.estafetteref01_Line.f lineOf
  rw [nums_len, Go.IntWalk.wrap64_in _ (by omega)]
  by_cases h : ((b.length + 2 : Nat) : Int) > most
  · rw [if_pos (by omega), if_pos h]
  · have := ref_l0 b _ k 0 (by omega) (by omega) (by simp) rfl hb
    rw [Int.natCast_zero] at this
    rw [if_neg (by omega), if_neg h, this]
def free (b : List UInt8) : Prop := b.any (fun c => c == 0 || c == 13 || c == 10) = false
theorem index_line (b r : List UInt8) (hb : ∀ c ∈ b, c ≠ 13) : Lib.index (b ++ 13 :: 10 :: r) [13, 10] = (b.length : Int) := by
  induction b with
  | nil => rw [List.nil_append, Lib.index]; rfl
  | cons c b ih =>
    have ih' := ih (fun x hx => hb x (List.mem_cons_of_mem _ hx))
    rw [List.cons_append, Lib.index, ih', if_neg (by simp [List.isPrefixOf, Ne.symm (hb c List.mem_cons_self)]), if_neg (by intro e; have := beq_iff_eq.1 e; omega), List.length_cons]
    omega
theorem index_none13 (b : List UInt8) (hb : ∀ c ∈ b, c ≠ 13) (t : List UInt8) (ht : t = [] ∨ t = [13]) : Lib.index (b ++ t) [13, 10] = -1 := by
  induction b with
  | nil => rcases ht with rfl | rfl <;> rfl
  | cons c b ih =>
    have ih' := ih (fun x hx => hb x (List.mem_cons_of_mem _ hx))
    rw [List.cons_append, Lib.index, ih', if_neg (by simp [List.isPrefixOf, Ne.symm (hb c List.mem_cons_self)])]
    rfl
theorem free13 {b : List UInt8} (h : free b) : ∀ c ∈ b, c ≠ 13 := fun c hc e => by
  have := List.any_eq_false.1 h c hc
  rw [e] at this
  exact this rfl
theorem next_line (most : Int) (b r : List UInt8) (h : free b) : nextL most (b ++ 13 :: 10 :: r) = (((lineOf most b).1, (lineOf most b).2, true), r) := by
  unfold nextL
  rw [index_line b r (free13 h), if_pos (by omega), Int.toNat_natCast, List.take_left, List.drop_append, List.drop_eq_nil_of_le (by omega)]
  have : b.length + 2 - b.length = 2 := by omega
  rw [this]
  rfl
theorem next_none (most : Int) (b t : List UInt8) (h : free b) (ht : t = [] ∨ t = [13]) : nextL most (b ++ t) = ((0, ⟨#[]⟩, false), b ++ t) := by
  unfold nextL
  rw [index_none13 b (free13 h) t ht, if_neg (by omega)]
theorem str_size (s : ByteArray) : s.data.toList.length = s.size := (Lib.size_eq s).symm
theorem str_bytes (s : ByteArray) (W : World) (hs : s.size ≤ 1000000000) : ∃ A c W', (convert 9 22 (.string s)).run Try.prog W = .ok (.slice A s.size c) W' ∧ Below W.heap.size W W' ∧ Kd.C (Kd.int .u8) W' A (numsL s.data.toList).length (numsL s.data.toList) ∧ s.size ≤ c := by
  refine ⟨_, _, _, run_bytes_of_string (P := Try.prog) W 9 22 5 s Try.underlying9 Try.underlying22 Try.underlying5, below_alloc (below_drew (Below.refl _ _)) _, ?_, (grownCap_ge W s.size 0 5)⟩
  refine Kd.C_of_reads (d := (0 : Int)) ⟨rfl, by rw [nums_len, str_size]; omega, fun _ => ⟨_, rfl, fun j hj => ?_⟩⟩
  rw [nums_len, str_size] at hj
  rw [add_plain]
  have hb := heap_alloc_new W.drew (.cells (bytesRow s (grownCap W s.size 0 5)) 5 ((bytesRow s (grownCap W s.size 0 5)).size, (bytesRow s (grownCap W s.size 0 5)).size + 1))
  have hb' : (W.drew.alloc (.cells (bytesRow s (grownCap W s.size 0 5)) 5 ((bytesRow s (grownCap W s.size 0 5)).size, (bytesRow s (grownCap W s.size 0 5)).size + 1))).heap[W.heap.size]? = _ := hb
  simp only [World.cell?, hb', Nat.zero_add]
  rw [bytesRow_at s _ j hj]
  unfold numsL
  simp [List.getD_eq_getElem?_getD, List.getElem?_map, hj]
theorem line_kind (k : Int) (t : ByteArray) (w : World) : (Instr.field 29 (.agg #[.int .i64 k, .string t]) 0).run Try.prog w = .ok (.int .i64 k) w := by kernel_rfl
set_option maxHeartbeats 4000000 in
theorem LineBounds_calls (s : ByteArray) (n m : Int) (w : World) (hm : w.cell? ⟨0, 0, none⟩ = some (.int .i64 m)) :
    Calls Try.prog 6 #[.string s, .int .u8 n] w fun e w' => e = .returned (.bool true) ∧ Below w.heap.size w w' := by
  have h0 := World.block_lt_of_cell? w _ hm
  have HA : Aside0 (∀ W, Below w.heap.size w W → Calls Try.prog 7 #[] W fun e w' => e = .returned (.bool true) ∧ Below W.heap.size W w') := ⟨fun W hW => answers_calls W m ((hW.cell (p := ⟨0, 0, none⟩) h0).trans hm)⟩
  have HM := Aside0.mk hm
  have hfd := line_kind
  clear hm
  by_cases hl : 500 < s.size
  · go_enter Try.func6, Try.ntmps6
    go_wp2_with (go_at_call 7; refine (HA.out _ (Below.refl _ _)).mono ?_; rintro e w3 ⟨rfl, hb3⟩; have HB3 := Aside0.mk hb3; clear hb3)
    go_ret
    exact ⟨rfl, HB3.out⟩
  · obtain ⟨A0, c0, w0, hk0, hbw0, hC0, hc0⟩ := str_bytes s w (by omega)
    obtain ⟨b, hbs⟩ : ∃ b, b = s.data.toList := ⟨_, rfl⟩
    have hlb : b.length = s.size := by rw [hbs]; exact str_size s
    have HL := Aside0.mk (PB.estafetteref01_Line.calls (b.length + 1) A0 c0 (numsL b) 1000 (lineOf 1000 b).1 (lineOf 1000 b).2 w0 (hbs ▸ hC0) (by rw [nums_len, hlb]; exact hc0) (ref_line b 1000 _ (by omega) (by omega)))
    rw [nums_len, hlb] at HL
    by_cases hf : free b
    case neg =>
      have hlo : lineOf 1000 b = (3, ⟨#[]⟩) := by
        unfold lineOf
        rw [if_neg (by omega), if_pos (by unfold free at hf; exact Bool.not_eq_false _ ▸ hf)]
      rw [hlo] at HL
      have HBW0 := Aside0.mk hbw0
      clear hbw0 hC0 hbs hlo hf hlb
      go_enter Try.func6, Try.ntmps6
      go_wp2_with (first | (go_at_call 13; refine HL.out.mono ?_; rintro e w1 ⟨rfl, hb1⟩; have HB1 := Aside0.mk (below_step HBW0.out hb1); clear hb1) | (go_at_call 7; refine (HA.out _ HB1.out).mono ?_; rintro e w3 ⟨rfl, hb3⟩; have HB3 := Aside0.mk (below_step HB1.out hb3); clear hb3))
      go_ret
      exact ⟨rfl, HB3.out⟩
    have hlo : lineOf 1000 b = (1, mkS b) := by
      unfold lineOf
      rw [if_neg (by omega), if_neg (by unfold free at hf; simp [hf])]
    rw [hlo] at HL
    have HBW0 := Aside0.mk hbw0
    have HBS := Aside0.mk hbs
    have HLB := Aside0.mk hlb
    have HF := Aside0.mk hf
    clear hbw0 hC0 hbs hlo hf
    go_enter Try.func6, Try.ntmps6
    go_wp2_with (go_at_call 13; refine HL.out.mono ?_; rintro e w1 ⟨rfl, hb1⟩; have HB1 := Aside0.mk (below_step HBW0.out hb1); clear hb1)
    refine (New_calls _).mono ?_
    rintro e w2 ⟨rfl, rfl⟩
    go_wp2_with fail
    generalize hX : (s ++ (⟨#[13, 10]⟩ : ByteArray) ++ s ++ (⟨#[13, 10]⟩ : ByteArray) ++ s ++ (⟨#[13]⟩ : ByteArray)) = X
    have hXl : X.data.toList = b ++ 13 :: 10 :: (b ++ 13 :: 10 :: (b ++ [13])) := by
      rw [← hX, HBS.out]
      simp
    have hXs : X.size = 3 * b.length + 5 := by
      rw [← str_size, hXl]
      simp
      omega
    have hbN : Below w.heap.size w (w1.alloc (.cells #[.slice none 0 0] 42)) := below_alloc HB1.out _
    have hRN := Rdr.new w1 w.heap.size HB1.out.size
    obtain ⟨A1, c1, w3, hk1, hbw1, hC1, hc1⟩ := str_bytes X (w1.alloc (.cells #[.slice none 0 0] 42)) (by omega)
    have hR3 := hRN.below hbw1
    rw [hXl] at hC1
    have hB3 := below_step hbN hbw1
    have hF := Feed_calls w3 w.heap.size w1.heap.size _ [] (b ++ 13 :: 10 :: (b ++ 13 :: 10 :: (b ++ [13]))) A1 c1 hR3 hB3.size hC1 (by simp; omega)
    rw [nums_len, ← hXl, str_size, List.nil_append, hXl] at hF
    have HF3 := Aside0.mk hF
    have HB3 := Aside0.mk hB3
    clear hX hXl hXs hbN hRN hbw1 hR3 hC1 hB3 hF hc1
    rw [hk1]
    go_wp2_with fail
    refine HF3.out.mono ?_
    rintro e w4 ⟨v4, rfl, hR4, hb4, -, -⟩
    have HB4 := Aside0.mk (HB3.out.trans hb4)
    have HR4 := Aside0.mk hR4
    clear hR4 hb4
    go_wp2_with fail
    have hms : mkS b = s := by
      rw [HBS.out]
      unfold mkS
      exact ByteArray.ext (Array.toList_inj.1 rfl)
    have hlo2 : lineOf ((s.size : Int) + 2) b = (1, s) := by
      unfold lineOf
      rw [if_neg (by omega), if_neg (by have := HF.out; unfold free at this; simp [this]), hms]
    have hlo3 : lineOf ((s.size : Int) + 1) b = (2, ⟨#[]⟩) := lineOf_long (by omega)
    have hm4 : w4.cell? ⟨0, 0, none⟩ = some (.int .i64 m) := (HB4.out.cell (p := ⟨0, 0, none⟩) h0).trans HM.out
    have hp := blk_lt HR4.out.2.1
    have hN5 := Next_calls w4 w.heap.size w1.heap.size v4 _ ((s.size : Int) + 2) m HR4.out HB4.out.size (by simp; omega) hm4
    rw [next_line _ b _ HF.out, hlo2] at hN5
    refine hN5.mono ?_
    rintro e w5 ⟨v5, rfl, hR5, hb5, hk5, -⟩
    have hp5 : w1.heap.size < w5.heap.size := blk_lt hR5.2.1
    have HB5 := Aside0.mk (HB4.out.trans hb5)
    have HR5 := Aside0.mk (hR5.below (below_alloc (Below.refl _ _) (.cells #[.int .i64 1, .string s] 29)))
    clear hN5 hR5 hb5 hk5 hm4 hp
    go_wp2_with fail
    have hB5' : Below w.heap.size w (w5.alloc (.cells #[.int .i64 1, .string s] 29)) := HB5.out.alloc HB5.out.size _
    have hm5 : (w5.alloc (.cells #[.int .i64 1, .string s] 29)).cell? ⟨0, 0, none⟩ = some (.int .i64 m) := (hB5'.cell (p := ⟨0, 0, none⟩) h0).trans HM.out
    have hN6 := Next_calls _ w.heap.size w1.heap.size v5 _ ((s.size : Int) + 1) m HR5.out hB5'.size (by simp; omega) hm5
    rw [next_line _ b _ HF.out, hlo3] at hN6
    refine hN6.mono ?_
    rintro e w6 ⟨v6, rfl, hR6, hb6, hk6, -⟩
    have hp6 := blk_lt hR6.2.1
    have HG6 := Aside0.mk (blk_kept (blk_new w5 (.cells #[.int .i64 1, .string s] 29)) hk6 (fun e => by omega))
    have HB6 := Aside0.mk (hB5'.trans hb6)
    have HR6 := Aside0.mk (hR6.below (below_alloc (Below.refl _ _) (.cells #[.int .i64 2, .string ⟨#[]⟩] 29)))
    clear hN6 hR6 hb6 hk6 hm5 hB5'
    go_wp2_with fail
    have hB6' : Below w.heap.size w (w6.alloc (.cells #[.int .i64 2, .string ⟨#[]⟩] 29)) := HB6.out.alloc HB6.out.size _
    have hm6 : (w6.alloc (.cells #[.int .i64 2, .string ⟨#[]⟩] 29)).cell? ⟨0, 0, none⟩ = some (.int .i64 m) := (hB6'.cell (p := ⟨0, 0, none⟩) h0).trans HM.out
    have hN7 := Next_calls _ w.heap.size w1.heap.size v6 _ (wrap64 (s.size + 2 + wrap64 n)) m HR6.out hB6'.size (by simp; omega) hm6
    rw [next_none _ b _ HF.out (.inr rfl)] at hN7
    refine hN7.mono ?_
    rintro e w7 ⟨v7, rfl, hR7, hb7, hk7, -⟩
    have hp7 := blk_lt hR7.2.1
    have hbl6 := blk_lt HG6.out
    have HG7 := Aside0.mk (blk_kept (blk_alloc HG6.out _) hk7 (fun e => by omega))
    have HH7 := Aside0.mk (blk_kept (blk_new w6 (.cells #[.int .i64 2, .string ⟨#[]⟩] 29)) hk7 (fun e => by omega))
    have HB7 := Aside0.mk (hB6'.trans hb7)
    have HR7 := Aside0.mk hR7
    clear hN7 hR7 hb7 hk7 hm6 hB6' hbl6
    have HLF := Aside0.mk (fun (W : World) (hW : Below w7.heap.size w7 W) => Left_calls W _ _ _ _ (HR7.out.below hW))
    have hlen : (((b ++ [13]).length : Nat) : Int) = (s.size : Int) + 1 := by rw [List.length_append, HLB.out]; simp
    rw [hlen] at HLF
    clear hlen
    go_wp2_with (first | (go_at_call 7; refine (HA.out _ (HB7.out.alloc HB7.out.size _)).mono ?_; rintro e w8 ⟨rfl, hb8⟩; have hb8' := (below_step (below_alloc (Below.refl _ _) _) hb8); have HG8 := blk_below HG7.out hb8'; have HH8 := blk_below HH7.out hb8'; have HB8 := Aside0.mk (HB7.out.trans (hb8'.mono HB7.out.size)); have HW8 := Aside0.mk hb8'; have hg0 := (blk_cell HG8 0).trans rfl; have hg1 := (blk_cell HG8 1).trans rfl; have hh0 := (blk_cell HH8 0).trans rfl; have hh1 := (blk_cell HH8 1).trans rfl; clear hb8 hb8' HG8 HH8) | (go_at_call 12; refine (HLF.out _ HW8.out).mono ?_; rintro e w9 ⟨rfl, rfl⟩))
    go_ret
    exact ⟨rfl, HB8.out⟩
end Go.Proofs.Ytgpchkkdpljonaa.Hand
