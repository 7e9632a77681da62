/- (files).do: one write, over memory. -/
import Derived.Test.YtipclnniaenciaaDiskMem
namespace Go.Proofs.Ytipclnniaenciaa.Hand
open Go.RowKit Go.Maps Go.Proofs.YtipclnniaenciaaW.PrintWords Go.Proofs.YtipclnniaenciaaW.PrintLast Go.Proofs.YtipclnniaenciaaW.PrintMore
set_option linter.unusedVariables false
set_option linter.unusedSimpArgs false
set_option maxHeartbeats 8000000 in
theorem do_add (W : World) (F : Nat → Prop) (b : Nat) (fs : Fs) (s t : ByteArray) (l : By) (A : Option Addr) (c : Nat) (h : Aside0 (FilesAt W F b fs)) (HC : Aside0 (CB W A l)) (hf : s.size ≤ maxLen) (hl : fs.length ≤ 4 * maxN) (hsz : used fs + l.length ≤ 4 * maxB) :
    Calls Try.prog 38 #[.map (some b), .agg #[.int .i64 0, .string s, .string t, .slice A l.length c]] W fun e w' => e = .returned (.tuple #[]) ∧ FilesAt w' (fun k => F k ∨ W.heap.size ≤ k) b (doW fs ⟨0, s, t, l⟩) ∧ Chg (fun k => k = b) W w' := by
  unfold maxN at hl
  unfold maxB at hsz
  obtain ⟨v, hlk, hv⟩ := h.out.at_ s hf
  obtain ⟨Av, cv, rfl, hcv, hCv⟩ := RB_slice hv
  have hbl : (bytesAt s fs).length ≤ used fs := by have := used_look s fs; omega
  have HLK := Aside0.mk hlk
  have HBX := Aside0.mk (blk_drewN (blk_new W (.cells #[.int .i64 0, .string s, .string t, .slice A l.length c] 61)) 1)
  have HBD := Aside0.mk (pw_below_drewN (below_alloc (Below.refl W.heap.size W) (.cells #[.int .i64 0, .string s, .string t, .slice A l.length c] 61)) 1)
  have HLT : Aside0 (¬ (((W.alloc (.cells #[.int .i64 0, .string s, .string t, .slice A l.length c] 61)).drew)).heap.size ≤ W.heap.size) := ⟨fun hh => by have := Array.size_push (xs := W.heap) (.cells #[.int .i64 0, .string s, .string t, .slice A l.length c] 61); simp only [World.alloc, World.drew] at hh; omega⟩
  have HCL := Aside0.mk (clone_calls ((W.alloc (.cells #[.int .i64 0, .string s, .string t, .slice A l.length c] 61)).drew) Av (bytesAt s fs).length cv (bytesAt s fs) (Kd.C_below hCv HBD.out) rfl (by omega))
  clear hlk hCv hv
  go_enter Try.func38, Try.ntmps38
  go_wp2
  refine start_ (n := 12) (S := fun w' => w'.cell? ⟨W.heap.size, 1, none⟩ = some (.string s) ∧ w'.cell? ⟨W.heap.size, 3, none⟩ = some (.slice A l.length c) ∧ (Instr.lookup 54 (.map (some b)) (.string s) false).run Try.prog w' = .ok (.slice Av (bytesAt s fs).length cv) w') (ds := [11]) #[false, false, false, false, false, false, false, false, false, false, false, false] (by kernel_rfl) rfl rfl ⟨(blk_cell HBX.out 1).trans rfl, (blk_cell HBX.out 3).trans rfl, (HLK.out _ (fun k hF hk => HBD.out.block k hk)).1⟩ (fun hHeld => ?_)
  refine pure_ (i := 0) (N := some 9) (v := ?_) (a' := ?_) #[true, false, false, false, false, false, false, false, false, false, false, false] rfl rfl (by kernel_rfl) (fun _ _ _ h => h) (Or.inl ⟨by rfl, ?_⟩) ?_ ?_
  rotate_left
  · intro w'
    go_simp
    with_reducible rfl
  rotate_left
  · simp only [Act.put, List.setIfInBounds_toArray, List.set_cons_zero, List.set_cons_succ, i64_w, i32_w]
    rfl
  refine pure_ (i := 1) (N := some 10) (v := ?_) (a' := ?_) #[true, true, false, false, false, false, false, false, false, false, false, false] rfl rfl (by kernel_rfl) (fun _ _ _ h => h) (Or.inl ⟨by rfl, ?_⟩) ?_ ?_
  rotate_left
  · intro w'
    go_simp
    with_reducible rfl
  rotate_left
  · simp only [Act.put, List.setIfInBounds_toArray, List.set_cons_zero, List.set_cons_succ, i64_w, i32_w]
    rfl
  refine pure_ (i := 3) (N := some 12) (v := ?_) (a' := ?_) #[true, true, false, true, false, false, false, false, false, false, false, false] rfl rfl (by kernel_rfl) (fun _ _ _ h => h) (Or.inl ⟨by rfl, ?_⟩) ?_ ?_
  rotate_left
  · intro w'
    go_simp
    with_reducible rfl
  rotate_left
  · simp only [Act.put, List.setIfInBounds_toArray, List.set_cons_zero, List.set_cons_succ, i64_w, i32_w]
    rfl
  refine pure_ (i := 4) (N := some 13) (v := ?_) (a' := ?_) #[true, true, false, true, true, false, false, false, false, false, false, false] rfl rfl (by kernel_rfl) (fun _ _ _ h => h) (Or.inl ⟨by rfl, ?_⟩) ?_ ?_
  rotate_left
  · intro w'
    go_simp
    with_reducible rfl
  rotate_left
  · simp only [Act.put, List.setIfInBounds_toArray, List.set_cons_zero, List.set_cons_succ, i64_w, i32_w]
    rfl
  refine pure_ (i := 8) (N := some 17) (v := ?_) (a' := ?_) #[true, true, false, true, true, false, false, false, true, false, false, false] rfl rfl (by kernel_rfl) (fun _ _ _ h => h) (Or.inl ⟨by rfl, ?_⟩) ?_ ?_
  rotate_left
  · intro w'
    go_simp
    with_reducible rfl
  rotate_left
  · simp only [Act.put, List.setIfInBounds_toArray, List.set_cons_zero, List.set_cons_succ, i64_w, i32_w]
    rfl
  refine take_ (i := 2) (N := some 11) (v := ?_) (a' := ?_) #[true, true, true, true, true, false, false, false, true, false, false, false] rfl rfl (by kernel_rfl) (fun _ _ _ h => h) (Or.inl ⟨by rfl, ?_⟩) hHeld ?_ ?_
  rotate_left
  · rintro w' ⟨s0, s1, s2⟩
    go_simp
    with_reducible rfl
  rotate_left
  · simp only [Act.put, List.setIfInBounds_toArray, List.set_cons_zero, List.set_cons_succ, i64_w, i32_w]
    rfl
  refine take_ (i := 5) (N := some 14) (v := ?_) (a' := ?_) #[true, true, true, true, true, true, false, false, true, false, false, false] rfl rfl (by kernel_rfl) (fun _ _ _ h => h) (Or.inl ⟨by rfl, ?_⟩) hHeld ?_ ?_
  rotate_left
  · rintro w' ⟨s0, s1, s2⟩
    go_simp
    with_reducible rfl
  rotate_left
  · simp only [Act.put, List.setIfInBounds_toArray, List.set_cons_zero, List.set_cons_succ, i64_w, i32_w]
    rfl
  refine take_ (i := 6) (N := some 15) (v := ?_) (a' := ?_) #[true, true, true, true, true, true, true, false, true, false, false, false] rfl rfl (by kernel_rfl) (fun _ _ _ h => h) (Or.inl ⟨by rfl, ?_⟩) hHeld ?_ ?_
  rotate_left
  · rintro w' ⟨s0, s1, s2⟩
    go_simp
    with_reducible rfl
  rotate_left
  · simp only [Act.put, List.setIfInBounds_toArray, List.set_cons_zero, List.set_cons_succ, i64_w, i32_w]
    rfl
  refine take_ (i := 9) (N := some 18) (v := ?_) (a' := ?_) #[true, true, true, true, true, true, true, false, true, true, false, false] rfl rfl (by kernel_rfl) (fun _ _ _ h => h) (Or.inl ⟨by rfl, ?_⟩) hHeld ?_ ?_
  rotate_left
  · rintro w' ⟨s0, s1, s2⟩
    go_simp
    with_reducible rfl
  rotate_left
  · simp only [Act.put, List.setIfInBounds_toArray, List.set_cons_zero, List.set_cons_succ, i64_w, i32_w]
    rfl
  refine one_ (i := 7) (N := some 16) #[true, true, true, true, true, true, true, true, true, true, false, false] rfl rfl (by kernel_rfl) (by decide) (fun K hK => ?_)
  refine goes_ Try.func27 (by kernel_rfl) rfl #[.slice Av (bytesAt s fs).length cv] (by rfl) rfl rfl (by simp only [List.map_toArray, List.map_cons, List.map_nil]; rfl) ?_
  with_reducible refine (HCL.out).mono ?_
  rintro e w3 ⟨v3, rfl, hR3, hb3⟩
  refine ⟨_, rfl, ?_⟩
  have HB3 := Aside0.mk hb3
  obtain ⟨A3, c3, rfl, hc3, _⟩ := RB_slice hR3
  have HR3 := Aside0.mk hR3
  clear hR3 hb3
  refine hK.out _ _ ⟨(blk_cell (blk_below HBX.out HB3.out) 1).trans rfl, (blk_cell (blk_below HBX.out HB3.out) 3).trans rfl, (HLK.out _ (fun k hF hk => (HBD.out.trans (HB3.out.mono HBD.out.size)).block k hk)).1⟩ (fun hHeld => ?_)
  clear hK K
  refine norm_ (a' := ?_) ?_ ?_
  rotate_left
  · show Act.put _ (some 16) _ = _
    simp only [Act.put, List.setIfInBounds_toArray, List.set_cons_zero, List.set_cons_succ, i64_w, i32_w]
    rfl
  refine one_ (i := 10) (N := some 19) #[true, true, true, true, true, true, true, true, true, true, true, false] rfl rfl (by kernel_rfl) (by decide) (fun K hK => ?_)
  refine Kd.R_append_rows_step (Kd.int .u8) (Rr := (Kd.int .u8).K w3) (w0 := ((W.alloc (.cells #[.int .i64 0, .string s, .string t, .slice A l.length c] 61)).drew)) (((W.alloc (.cells #[.int .i64 0, .string s, .string t, .slice A l.length c] 61)).drew)).heap.size (by rfl) (.tmp 16) (.tmp 18) 22 5 (.int .u8 0) 1 rfl Try.underlying22 infoU8 rfl (by decide) (by omega) (.slice A3 (bytesAt s fs).length c3) (numsL (bytesAt s fs)) (numsL l) A l.length c (fun k => (((W.alloc (.cells #[.int .i64 0, .string s, .string t, .slice A l.length c] 61)).drew)).heap.size ≤ k) (fun _ => False) rfl rfl ?aO ?aR ?aK (fun _ hk => hk.elim) ?aF ?aB ?aS ?aL ?_
  (case aO => exact HR3.out)
  (case aR => exact (nums_len l ▸ Kd.C_below (Kd.C_below HC.out HBD.out) HB3.out))
  (case aK => exact fun x cs hx => hx)
  (case aF => exact fun k hk => Nat.le_trans HB3.out.size hk)
  (case aB => exact HB3.out)
  (case aS => exact HB3.out.size)
  (case aL => rw [nums_len]; omega)
  intro v4 w4 ho4 hb4 hg4 hat4
  have HG4 := Aside0.mk hg4
  have HB4 := Aside0.mk hb4
  have HNE := Aside0.mk (fun (e : some W.heap.size = (Value.slice A3 (bytesAt s fs).length c3).ownBlock) => HLT.out ((HR3.out).1 _ e.symm))
  rw [← nums_app] at ho4
  obtain ⟨w5, hst, hF5, hc5, hs5⟩ := FilesAt.store ((h.out.below (HBD.out.trans (HB4.out.mono HBD.out.size))).mono (G := fun k => F k ∨ W.heap.size ≤ k) (fun k hk => .inl hk)) hf (by unfold maxLen; omega) (Kd.R_mono (Kd.R_lower ho4 (Nat.zero_le _)) (fun k hk => .inr (Nat.le_trans HBD.out.size hk)))
  have HF5 := Aside0.mk hF5
  have HC5 := Aside0.mk hc5
  have HO4 := Aside0.mk ho4
  obtain ⟨A4, c4, rfl, _, _⟩ := RB_slice ho4
  rw [List.length_append] at hst
  clear ho4 hb4 hg4 hat4 hF5 hc5 hs5
  refine hK.out _ _ ⟨(blk_cell (blk_grown (blk_below HBX.out HB3.out) HG4.out HNE.out) 1).trans rfl, (blk_cell (blk_grown (blk_below HBX.out HB3.out) HG4.out HNE.out) 3).trans rfl, (HLK.out _ (fun k hF hk => (HBD.out.trans (HB4.out.mono HBD.out.size)).block k hk)).1⟩ (fun hHeld => ?_)
  clear hK K
  refine norm_ (a' := ?_) ?_ ?_
  rotate_left
  · show Act.put _ (some 19) _ = _
    simp only [Act.put, List.setIfInBounds_toArray, List.set_cons_zero, List.set_cons_succ, i64_w, i32_w]
    rfl
  refine last_ (i := 11) (N := none) #[true, true, true, true, true, true, true, true, true, true, true, true] rfl rfl (by kernel_rfl) (by decide) (fun K hK => ?_)
  refine skip_ (w1 := ?_) (by rfl) rfl ?_ ?_
  rotate_left
  · go_simp
    rfl
  refine hK.out _ _ ?_
  clear hK K
  refine done_ (by kernel_rfl) ?_
  go_wp2
  refine bodyPost_end (results_none rfl _ _ _) rfl ?_
  refine ⟨rfl, ?_, ?_⟩
  · have e : doW fs ⟨0, s, t, l⟩ = put s (bytesAt s fs ++ l) fs := by unfold doW; rw [if_pos rfl]
    rw [e]
    exact HF5.out
  · exact (Chg.of_below (HBD.out.trans (HB4.out.mono HBD.out.size)) _).then_ HC5.out (fun k hk => .inl hk)
theorem R_chgMap {α : Type} {d : Kd α} {e base b : Nat} {ok : Nat → Prop} {w w' : World} {v : Value} {xs : List α} {es : Array MapEntry} {cl : Nat} (h : d.R e w base ok v xs) (hb : w.heap[b]? = some (.map es cl)) (hc : Chg (fun k => k = b) w w') : d.R e w' base ok v xs :=
  Kd.R_mono (Kd.R_step (R_nomap h hb) (fun k hk hlt => hc.block k hlt hk.2)) (fun k hk => hk.1)
set_option maxHeartbeats 8000000 in
theorem do_ren (W : World) (F : Nat → Prop) (b : Nat) (fs : Fs) (s t : ByteArray) (l : By) (vb : Value) (h : Aside0 (FilesAt W F b fs)) (hf : s.size ≤ maxLen) (ht : t.size ≤ maxLen) (hl : fs.length ≤ 4 * maxN) :
    Calls Try.prog 38 #[.map (some b), .agg #[.int .i64 1, .string s, .string t, vb]] W fun e w' => e = .returned (.tuple #[]) ∧ FilesAt w' (fun k => F k ∨ W.heap.size ≤ k) b (doW fs ⟨1, s, t, l⟩) ∧ Chg (fun k => k = b) W w' := by
  unfold maxN at hl
  obtain ⟨v, hlk, hv⟩ := h.out.at_ s hf
  have hbd := below_alloc (Below.refl W.heap.size W) (.cells #[.int .i64 1, .string s, .string t, vb] 61)
  have hbx := blk_new W (.cells #[.int .i64 1, .string s, .string t, vb] 61)
  have hk1 := (hlk _ (fun k hF hk => hbd.block k hk)).1
  have hf1 := h.out.below hbd
  obtain ⟨es, cl, hm1⟩ := hf1.isMap
  obtain ⟨w5, hd5, hf5, hc5, hs5⟩ := hf1.drop hf 0
  have hv5 := R_chgMap (Kd.R_below hv hbd) hm1 hc5
  have hbx5 := hc5.blk hbx (fun e => by have := h.out.lt; omega)
  have hx1 := (blk_cell hbx 1).trans rfl
  have hx5 := (blk_cell hbx5 2).trans rfl
  have hdl := len_del s fs
  obtain ⟨w6, hu6, hf6, hc6, hs6⟩ := hf5.store ht (by unfold maxLen; omega) hv5
  have HC5 := Aside0.mk hc5
  have HC6 := Aside0.mk hc6
  have HF6 := Aside0.mk hf6
  have HBD := Aside0.mk hbd
  clear hlk hv hv5 hbd hf1 hm1 hf5 hc5 hs5 hc6 hf6 hs6 hbx5
  go_enter Try.func38, Try.ntmps38
  go_wp2
  refine bodyPost_end (results_none rfl _ _ _) rfl ?_
  refine ⟨rfl, ?_, ?_⟩
  · have e : doW fs ⟨1, s, t, l⟩ = put t (bytesAt s fs) (del s fs) := by unfold doW; rw [if_neg (show ¬ (1 : Int) = 0 by decide), if_pos rfl]
    rw [e]
    exact HF6.out.mono (fun k hk => .inl hk)
  · exact ((Chg.of_below HBD.out _).then_ HC5.out (fun k hk => .inl hk)).then_ HC6.out (fun k hk => .inl hk)
set_option maxHeartbeats 8000000 in
theorem do_rem (W : World) (F : Nat → Prop) (b : Nat) (fs : Fs) (s t : ByteArray) (l : By) (vb : Value) (h : Aside0 (FilesAt W F b fs)) (hf : s.size ≤ maxLen) :
    Calls Try.prog 38 #[.map (some b), .agg #[.int .i64 2, .string s, .string t, vb]] W fun e w' => e = .returned (.tuple #[]) ∧ FilesAt w' (fun k => F k ∨ W.heap.size ≤ k) b (doW fs ⟨2, s, t, l⟩) ∧ Chg (fun k => k = b) W w' := by
  have hbd := below_alloc (Below.refl W.heap.size W) (.cells #[.int .i64 2, .string s, .string t, vb] 61)
  have hbx := blk_new W (.cells #[.int .i64 2, .string s, .string t, vb] 61)
  have hf1 := h.out.below hbd
  obtain ⟨w5, hd5, hf5, hc5, hs5⟩ := hf1.drop hf 0
  have hx1 := (blk_cell hbx 1).trans rfl
  have HC5 := Aside0.mk hc5
  have HF5 := Aside0.mk hf5
  have HBD := Aside0.mk hbd
  clear hbd hf1 hf5 hc5 hs5
  go_enter Try.func38, Try.ntmps38
  go_wp2
  refine bodyPost_end (results_none rfl _ _ _) rfl ?_
  refine ⟨rfl, ?_, ?_⟩
  · have e : doW fs ⟨2, s, t, l⟩ = del s fs := by unfold doW; rw [if_neg (show ¬ (2 : Int) = 0 by decide), if_neg (show ¬ (2 : Int) = 1 by decide), if_pos rfl]
    rw [e]
    exact HF5.out.mono (fun k hk => .inl hk)
  · exact (Chg.of_below HBD.out _).then_ HC5.out (fun k hk => .inl hk)
set_option maxHeartbeats 8000000 in
theorem do_other (W : World) (F : Nat → Prop) (b : Nat) (fs : Fs) (k : Int) (s t : ByteArray) (l : By) (vb : Value) (h : Aside0 (FilesAt W F b fs)) (h0 : (k == 0) = false) (h1 : (k == 1) = false) (h2 : (k == 2) = false) :
    Calls Try.prog 38 #[.map (some b), .agg #[.int .i64 k, .string s, .string t, vb]] W fun e w' => e = .returned (.tuple #[]) ∧ FilesAt w' (fun k => F k ∨ W.heap.size ≤ k) b (doW fs ⟨k, s, t, l⟩) ∧ Chg (fun k => k = b) W w' := by
  go_enter Try.func38, Try.ntmps38
  go_wp2
  refine bodyPost_end (results_none rfl _ _ _) rfl ?_
  have hbd := below_alloc (Below.refl W.heap.size W) (.cells #[.int .i64 k, .string s, .string t, vb] 61)
  refine ⟨rfl, ?_, Chg.of_below hbd _⟩
  have e : doW fs ⟨k, s, t, l⟩ = fs := by unfold doW; rw [if_neg (by simpa using h0), if_neg (by simpa using h1), if_neg (by simpa using h2)]
  rw [e]
  exact (h.out.below hbd).mono (fun k hk => .inl hk)
theorem do_calls (W : World) (F : Nat → Prop) (b : Nat) (fs : Fs) (w : Wr) (A : Option Addr) (c : Nat) (h : FilesAt W F b fs) (HC : CB W A w.b) (hf : w.frm.size ≤ 32 ∧ w.onto.size ≤ 32) (hl : fs.length ≤ 4 * maxN) (hsz : used fs + w.b.length ≤ 4 * maxB) :
    Calls Try.prog 38 #[.map (some b), .agg #[.int .i64 w.kind, .string w.frm, .string w.onto, .slice A w.b.length c]] W fun e w' => e = .returned (.tuple #[]) ∧ FilesAt w' (fun k => F k ∨ W.heap.size ≤ k) b (doW fs w) ∧ Chg (fun k => k = b) W w' := by
  obtain ⟨k, s, t, l⟩ := w
  have h1 : s.size ≤ maxLen := by unfold maxLen; have := hf.1; simp only at this; omega
  have h2 : t.size ≤ maxLen := by unfold maxLen; have := hf.2; simp only at this; omega
  by_cases e0 : k = 0
  · subst e0
    exact do_add W F b fs s t l A c ⟨h⟩ ⟨HC⟩ h1 hl hsz
  · by_cases e1 : k = 1
    · subst e1
      exact do_ren W F b fs s t l _ ⟨h⟩ h1 h2 hl
    · by_cases e2 : k = 2
      · subst e2
        exact do_rem W F b fs s t l _ ⟨h⟩ h1
      · exact do_other W F b fs k s t l _ ⟨h⟩ (by simpa using e0) (by simpa using e1) (by simpa using e2)
end Go.Proofs.Ytipclnniaenciaa.Hand
