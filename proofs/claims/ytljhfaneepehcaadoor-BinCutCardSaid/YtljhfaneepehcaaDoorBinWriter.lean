/- bin.writer over memory: numbers and texts as bytes. -/
import Derived.Test.YtljhfaneepehcaaDoorAddrEv
import Derived.Test.YtljhfaneepehcaaDoorWMore
import Derived.Test.YtljhfaneepehcaaDoorWLast
import Derived.Test.YtljhfaneepehcaaDoorWKept
import Derived.WalkKit
import Derived.ProofKit
namespace Go.Proofs.YtljhfaneepehcaaDoor.Hand
open Go.RowKit Go.Proofs.YtljhfaneepehcaaDoorW.PrintWords Go.Proofs.YtljhfaneepehcaaDoorW.PrintLast Go.Proofs.YtljhfaneepehcaaDoorW.PrintMore Go.Proofs.YtljhfaneepehcaaDoor.Addr
set_option linter.unusedVariables false
set_option linter.unusedSimpArgs false
theorem infoU8 : (Tryd.prog.info? 5).map (fun i => (i.zero, i.size, i.bytes)) = some (some (.int .u8 0), 1, 1) := by kernel_rfl
/-- A number in so many bytes, the greatest first. -/
def numB (n : Int) : Nat → List Int
  | 0 => []
  | s + 1 => (n / 2 ^ (8 * s)) % 256 :: numB n s
theorem numB_len (n : Int) (s : Nat) : (numB n s).length = s := by
  induction s with
  | zero => rfl
  | succ s ih => rw [numB, List.length_cons, ih]
def textB (s : ByteArray) : List Int := numB (s.size : Int) 2 ++ bytesOf s
structure Wr (W : World) (base p : Nat) (v : Value) (bs : List Int) : Prop where
  pos : base ≤ p
  cell : W.heap[p]? = some (.cells #[v] 41 (0, 0))
  row : Kd.R (Kd.int .u8) 5 W base (fun _ => True) v bs
theorem Wr.apart {W : World} {base p : Nat} {v : Value} {bs : List Int} (h : Wr W base p v bs) : some p ≠ v.ownBlock := Kd.R_ne h.row h.cell (by decide)
theorem Wr.below {W W' : World} {base p : Nat} {v : Value} {bs : List Int} (h : Wr W base p v bs) (hb : Below W.heap.size W W') : Wr W' base p v bs := ⟨h.pos, blk_below h.cell hb, Kd.R_below h.row hb⟩
set_option maxHeartbeats 8000000 in
theorem num_calls (n : Int) (hn : 0 ≤ n) (hn2 : n < 4611686018427387904) (size : Nat) (hs : size ≤ 6) (W : World) (base p : Nat) (v : Value) (bs : List Int) (hW : Wr W base p v bs) (hl : bs.length ≤ 1000000000) :
    Calls Tryd.prog 15 #[.pointer (some ⟨p, 0, none⟩), .int .i64 n, .int .i64 size] W fun e w' => ∃ v', e = .returned (.tuple #[]) ∧ Wr w' base p v' (bs ++ numB n size) ∧ Below base W w' := by
  have HW := Aside0.mk hW
  clear hW
  go_enter Tryd.func15, Tryd.ntmps15
  go_wp2
  go_loopw [6] (fun v6 wr => ∃ (j : Nat) (vj : Value) (bj : List Int), v6 = .int .i64 ((j : Int) - 1) ∧ j ≤ size ∧ Aside0 (Wr wr base p vj bj ∧ Below base W wr ∧ bj ++ numB n j = bs ++ numB n size)) (fun v6 _ => (intOf v6 + 1).toNat)
  case atStart => exact ⟨size, v, bs, rfl, Nat.le_refl _, ⟨HW.out, Below.refl _ _, rfl⟩⟩
  case round =>
    obtain ⟨j, vj, bj, rfl, hj, HI⟩ := hrel
    obtain ⟨Aj, cj, rfl⟩ := Kd.R_slice HI.out.1.row
    have hc0 := (blk_cell HI.out.1.cell 0).trans rfl
    have hf0 := blk_frozen HI.out.1.cell 0
    have hbW : base ≤ W.heap.size := Nat.le_trans HW.out.pos (Nat.le_of_lt (blk_lt HW.out.cell))
    have hlj : bj.length ≤ bs.length + 6 := by
      have := congrArg List.length HI.out.2.2
      rw [List.length_append, List.length_append, numB_len, numB_len] at this
      omega
    by_cases h0 : j = 0
    · subst h0
      go_wp2
      refine bodyPost_end (results_none rfl _ _ _) rfl ?_
      have h2 := HI.out.2.2
      rw [numB, List.append_nil] at h2
      subst h2
      exact ⟨_, rfl, HI.out.1, HI.out.2.1⟩
    · obtain ⟨q, rfl⟩ : ∃ q, j = q + 1 := ⟨j - 1, by omega⟩
      have e1 : (((q + 1 : Nat) : Int) - 1) = (q : Int) := by omega
      rw [e1]
      have hw8 : wrap64 (8 * (q : Int)) = ((8 * q : Nat) : Int) := by rw [Go.IntWalk.wrap64_in _ (by omega)]; omega
      go_wp2_with fail
      refine start_ (n := 15) (S := fun w' => w'.cell? ⟨p, 0, none⟩ = some (.slice Aj bj.length cj)) (ds := [14]) #[false, false, false, false, false, false, false, false, false, false, false, false, false, false, false] (by kernel_rfl) rfl rfl (hc0) (fun hHeld => ?_)
      refine pure_ (i := 0) (N := some 13) (v := ?_) (a' := ?_) #[true, false, false, false, false, false, false, false, false, false, false, false, false, false, false] rfl rfl (by kernel_rfl) (fun _ _ _ h => h) (Or.inl ⟨by rfl, ?_⟩) ?_ ?_
      rotate_left
      · intro w'
        go_simp
        with_reducible rfl
      rotate_left
      · simp only [Act.put, List.setIfInBounds_toArray, List.set_cons_zero, List.set_cons_succ, i64_w, i32_w]
        rfl
      refine pure_ (i := 1) (N := some 14) (v := ?_) (a' := ?_) #[true, true, false, false, false, false, false, false, false, false, false, false, false, false, false] rfl rfl (by kernel_rfl) (fun _ _ _ h => h) (Or.inl ⟨by rfl, ?_⟩) ?_ ?_
      rotate_left
      · intro w'
        go_simp
        with_reducible rfl
      rotate_left
      · simp only [Act.put, List.setIfInBounds_toArray, List.set_cons_zero, List.set_cons_succ, i64_w, i32_w]
        rfl
      refine pure_ (i := 2) (N := some 15) (v := ?_) (a' := ?_) #[true, true, true, false, false, false, false, false, false, false, false, false, false, false, false] rfl rfl (by kernel_rfl) (fun _ _ _ h => h) (Or.inl ⟨by rfl, ?_⟩) ?_ ?_
      rotate_left
      · intro w'
        go_simp
        with_reducible rfl
      rotate_left
      · simp only [Act.put, List.setIfInBounds_toArray, List.set_cons_zero, List.set_cons_succ, i64_w, i32_w]
        rfl
      refine pure_ (i := 3) (N := some 16) (v := ?_) (a' := ?_) #[true, true, true, true, false, false, false, false, false, false, false, false, false, false, false] rfl rfl (by kernel_rfl) (fun _ _ _ h => h) (Or.inl ⟨by rfl, ?_⟩) ?_ ?_
      rotate_left
      · intro w'
        go_simp
        with_reducible rfl
      rotate_left
      · simp only [Act.put, List.setIfInBounds_toArray, List.set_cons_zero, List.set_cons_succ, i64_w, i32_w]
        rfl
      refine pure_ (i := 5) (N := some 18) (v := ?_) (a' := ?_) #[true, true, true, true, false, true, false, false, false, false, false, false, false, false, false] rfl rfl (by kernel_rfl) (fun _ _ _ h => h) (Or.inl ⟨by rfl, ?_⟩) ?_ ?_
      rotate_left
      · intro w'
        go_simp
        with_reducible rfl
      rotate_left
      · simp only [Act.put, List.setIfInBounds_toArray, List.set_cons_zero, List.set_cons_succ, i64_w, i32_w]
        rfl
      refine pure_ (i := 6) (N := some 19) (v := ?_) (a' := ?_) #[true, true, true, true, false, true, true, false, false, false, false, false, false, false, false] rfl rfl (by kernel_rfl) (fun _ _ _ h => h) (Or.inl ⟨by rfl, ?_⟩) ?_ ?_
      rotate_left
      · intro w'
        go_simp
        with_reducible rfl
      rotate_left
      · simp only [Act.put, List.setIfInBounds_toArray, List.set_cons_zero, List.set_cons_succ, i64_w, i32_w]
        rfl
      refine pure_ (i := 7) (N := some 20) (v := ?_) (a' := ?_) #[true, true, true, true, false, true, true, true, false, false, false, false, false, false, false] rfl rfl (by kernel_rfl) (fun _ _ _ h => h) (Or.inl ⟨by rfl, ?_⟩) ?_ ?_
      rotate_left
      · intro w'
        go_simp
        with_reducible rfl
      rotate_left
      · simp only [Act.put, List.setIfInBounds_toArray, List.set_cons_zero, List.set_cons_succ, i64_w, i32_w]
        rfl
      refine pure_ (i := 8) (N := some 21) (v := ?_) (a' := ?_) #[true, true, true, true, false, true, true, true, true, false, false, false, false, false, false] rfl rfl (by kernel_rfl) (fun _ _ _ h => h) (Or.inl ⟨by rfl, ?_⟩) ?_ ?_
      rotate_left
      · intro w'
        go_simp
        with_reducible rfl
      rotate_left
      · simp only [Act.put, List.setIfInBounds_toArray, List.set_cons_zero, List.set_cons_succ, i64_w, i32_w]
        rfl
      refine pure_ (i := 9) (N := some 22) (v := ?_) (a' := ?_) #[true, true, true, true, false, true, true, true, true, true, false, false, false, false, false] rfl rfl (by kernel_rfl) (fun _ _ _ h => h) (Or.inl ⟨by rfl, ?_⟩) ?_ ?_
      rotate_left
      · intro w'
        go_simp
        with_reducible rfl
      rotate_left
      · simp only [Act.put, List.setIfInBounds_toArray, List.set_cons_zero, List.set_cons_succ, i64_w, i32_w]
        rfl
      refine take_ (i := 4) (N := some 17) (v := ?_) (a' := ?_) #[true, true, true, true, true, true, true, true, true, true, false, false, false, false, false] rfl rfl (by kernel_rfl) (fun _ _ _ h => h) (Or.inl ⟨by rfl, ?_⟩) hHeld ?_ ?_
      rotate_left
      · intro w' s0
        go_simp
        with_reducible rfl
      rotate_left
      · simp only [Act.put, List.setIfInBounds_toArray, List.set_cons_zero, List.set_cons_succ, i64_w, i32_w]
        rfl
      refine one_ (i := 10) (N := some 23) #[true, true, true, true, true, true, true, true, true, true, true, false, false, false, false] rfl rfl (by kernel_rfl) (by decide) (fun K hK => ?_)
      refine value_ (w1 := ?_) (v := ?_) (by rfl) rfl ?_ ?_
      rotate_left 2
      · go_simp
        constructor
        · rfl
        · rfl
      refine hK.out _ _ ((blk_cell (blk_alloc (w := wr.drew) HI.out.1.cell _) 0).trans rfl) (fun hHeld => ?_)
      clear hK K
      refine norm_ (a' := ?_) ?_ ?_
      rotate_left
      · show Act.put _ (some 23) _ = _
        simp only [Act.put, List.setIfInBounds_toArray, List.set_cons_zero, List.set_cons_succ, i64_w, i32_w]
        rfl
      refine one_ (i := 11) (N := some 24) #[true, true, true, true, true, true, true, true, true, true, true, true, false, false, false] rfl rfl (by kernel_rfl) (by decide) (fun K hK => ?_)
      refine Kd.R_append_step (Kd.int .u8) (w0 := W) (W := wr.drew) base (by rfl) (.tmp 17) (.tmp 23) 28 5 (.int .u8 0) 1 rfl Tryd.underlying28 infoU8 rfl (by decide) (by omega) (.slice Aj bj.length cj) bj (IntKind.u8.wrap (n / 2 ^ (8 * (q : Int)).toNat)) [.int .u8 (IntKind.u8.wrap (n / 2 ^ (8 * (q : Int)).toNat))] (fun _ => True) (fun _ => False) rfl ?aX rfl (fun _ hk => hk.elim) (fun _ _ => trivial) ?aO ?aB ?aS ?aL ?_
      (case aX => rfl)
      (case aO => exact Kd.R_drew HI.out.1.row)
      (case aB => exact below_drew HI.out.2.1)
      (case aS => exact Nat.le_trans hbW HI.out.2.1.size)
      (case aL => omega)
      intro v5 w5 ho hb5 hg5 hat5
      obtain ⟨A5, c5, rfl⟩ := Kd.R_slice ho
      rw [List.length_append, List.length_singleton] at ho ⊢
      have HP5 := Aside0.mk (blk_grown (g := p) (w := wr.drew) HI.out.1.cell hg5 HI.out.1.apart)
      have HO5 := Aside0.mk ho
      have HB5 := Aside0.mk hb5
      clear ho hb5 hg5 hat5
      have hc55 := (blk_cell HP5.out 0).trans rfl
      have hf55 := blk_frozen HP5.out 0
      refine hK.out _ _ (hc55) (fun hHeld => ?_)
      clear hK K
      refine norm_ (a' := ?_) ?_ ?_
      rotate_left
      · show Act.put _ (some 24) _ = _
        simp only [Act.put, List.setIfInBounds_toArray, List.set_cons_zero, List.set_cons_succ, i64_w, i32_w]
        rfl
      refine pure_ (i := 12) (N := some 25) (v := ?_) (a' := ?_) #[true, true, true, true, true, true, true, true, true, true, true, true, true, false, false] rfl rfl (by kernel_rfl) (fun _ _ _ h => h) (Or.inl ⟨by rfl, ?_⟩) ?_ ?_
      rotate_left
      · intro w'
        go_simp
        with_reducible rfl
      rotate_left
      · simp only [Act.put, List.setIfInBounds_toArray, List.set_cons_zero, List.set_cons_succ, i64_w, i32_w]
        rfl
      refine pure_ (i := 13) (N := some 26) (v := ?_) (a' := ?_) #[true, true, true, true, true, true, true, true, true, true, true, true, true, true, false] rfl rfl (by kernel_rfl) (fun _ _ _ h => h) (Or.inl ⟨by rfl, ?_⟩) ?_ ?_
      rotate_left
      · intro w'
        go_simp
        with_reducible rfl
      rotate_left
      · simp only [Act.put, List.setIfInBounds_toArray, List.set_cons_zero, List.set_cons_succ, i64_w, i32_w]
        rfl
      refine last_ (i := 14) (N := none) #[true, true, true, true, true, true, true, true, true, true, true, true, true, true, true] rfl rfl (by kernel_rfl) (by decide) (fun K hK => ?_)
      refine skip_ (w1 := ?_) (by rfl) rfl ?_ ?_
      rotate_left
      · go_simp
        rfl
      refine hK.out _ _ ?_
      clear hK K
      refine done_ (by kernel_rfl) ?_
      go_wp2
      go_roundw
      case rel =>
        have he : IntKind.u8.wrap (n / 2 ^ (8 * (q : Int)).toNat) = (n / 2 ^ (8 * q)) % 256 := by
          have : (8 * (q : Int)).toNat = 8 * q := by omega
          rw [this]
          rfl
        refine ⟨q, _, bj ++ [IntKind.u8.wrap (n / 2 ^ (8 * (q : Int)).toNat)], by go_num, by omega, ⟨⟨HW.out.pos, blk_put (cs := #[.slice Aj bj.length cj]) HP5.out 0 _ rfl, Kd.R_set HO5.out HP5.out (by decide) 0 _⟩, HB5.out.setCell (p := ⟨p, 0, none⟩) HW.out.pos _, ?_⟩⟩
        rw [List.append_assoc, he]
        exact HI.out.2.2
      case measure => simp [intOf]
set_option maxHeartbeats 8000000 in
theorem text_calls (s : ByteArray) (hn2 : s.size < 1000000000) (W : World) (base p : Nat) (v : Value) (bs : List Int) (hW : Wr W base p v bs) (hl : bs.length ≤ 1000000000) :
    Calls Tryd.prog 16 #[.pointer (some ⟨p, 0, none⟩), .string s] W fun e w' => ∃ v', e = .returned (.tuple #[]) ∧ Wr w' base p v' (bs ++ textB s) ∧ Below base W w' := by
  have HN := Aside0.mk (num_calls (s.size : Int) (by omega) (by omega) 2 (by omega) W base p v bs hW hl)
  clear hW
  go_enter Tryd.func16, Tryd.ntmps16
  go_wp2_with fail
  refine HN.out.mono ?_
  rintro e w1 ⟨v1, rfl, hW1, hB1⟩
  obtain ⟨bq, hbq⟩ : ∃ bq, bq = bs ++ numB (s.size : Int) 2 := ⟨_, rfl⟩
  rw [← hbq] at hW1
  have HLQ : Aside0 (bq.length = bs.length + 2) := ⟨by rw [hbq, List.length_append, numB_len]⟩
  have HQ := Aside0.mk hbq
  clear hbq
  obtain ⟨A1, c1, rfl⟩ := Kd.R_slice hW1.row
  have hc0 := (blk_cell hW1.cell 0).trans rfl
  have hf0 := blk_frozen hW1.cell 0
  have hb1 : base ≤ w1.heap.size := Nat.le_trans hW1.pos (Nat.le_of_lt (blk_lt hW1.cell))
  have HW1 := Aside0.mk hW1
  have HB1 := Aside0.mk hB1
  clear hW1 hB1
  have HOW := Aside0.mk (show w1.ownsRow base 5 1 (.slice A1 bq.length c1) bq.length (nums .u8 bq) from Kd.own_of_R HW1.out.row)
  go_wp2_with (at_builtin; refine print_append_str (w0 := W) base rfl (.tmp 12) _ 28 9 5 rfl Tryd.underlying28 Tryd.underlying9 infoU8 (.slice A1 bq.length c1) bq s rfl rfl ?aO ?aB ?aS ?aL ?_; (case aO => exact HOW.out); (case aB => exact HB1.out); (case aS => exact hb1); (case aL => have := HLQ.out; omega); intro v2 w2 ho hb2 hg2; have HP2 := Aside0.mk (blk_grown (g := p) HW1.out.cell hg2 HW1.out.apart); have hO2 := (show Kd.R (Kd.int .u8) 5 w2 base (fun _ => True) v2 (bq ++ bytesOf s) from Kd.R_of_own ho (fun _ _ => trivial)); obtain ⟨A2, c2, rfl⟩ := Kd.R_slice hO2; have HO2 := Aside0.mk hO2; have HB2 := Aside0.mk hb2; clear ho hO2 hb2 hg2; have hc2 := (blk_cell HP2.out 0).trans rfl; have hf2 := blk_frozen HP2.out 0)
  refine bodyPost_end (results_none rfl _ _ _) rfl ?_
  have hl2 : bq.length + (bytesOf s).length = (bq ++ bytesOf s).length := (List.length_append ..).symm
  have e : bs ++ textB s = bq ++ bytesOf s := by rw [HQ.out, textB, List.append_assoc]
  rw [hl2, e]
  exact ⟨.slice A2 (bq ++ bytesOf s).length c2, rfl, ⟨HW1.out.pos, blk_put (cs := #[.slice A1 bq.length c1]) HP2.out 0 _ rfl, Kd.R_set HO2.out HP2.out (by decide) 0 _⟩, HB2.out.setCell (p := ⟨p, 0, none⟩) HW1.out.pos _⟩
end Go.Proofs.YtljhfaneepehcaaDoor.Hand
