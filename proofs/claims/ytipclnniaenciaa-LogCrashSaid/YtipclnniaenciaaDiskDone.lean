/- done: one write more, over memory. -/
import Derived.Test.YtipclnniaenciaaDiskOps
namespace Go.Proofs.Ytipclnniaenciaa.Hand
open Go.RowKit Go.Maps Go.Proofs.YtipclnniaenciaaW.PrintWords Go.Proofs.YtipclnniaenciaaW.PrintLast Go.Proofs.YtipclnniaenciaaW.PrintMore
set_option linter.unusedVariables false
set_option linter.unusedSimpArgs false
theorem infoWr : (Try.prog.info? 61).map (fun i => (i.zero, i.size, i.bytes)) = some (some (.agg #[.int .i64 0, .string ⟨#[]⟩, .string ⟨#[]⟩, .slice none 0 0]), kWr.sz, 64) := by kernel_rfl
theorem kWr_M {w : World} {base : Nat} {ok : Nat → Prop} {wr : Wr} {v : Value} (h : RB w base ok v wr.b) : kWr.M w base ok wr [.int .i64 wr.kind, .string wr.frm, .string wr.onto, v] :=
  ⟨[.int .i64 wr.kind], [.string wr.frm, .string wr.onto, v], rfl, rfl, [.string wr.frm], [.string wr.onto, v], rfl, rfl, [.string wr.onto], [v], rfl, rfl, v, rfl, h⟩
theorem R_neMap {α : Type} {d : Kd α} {e base b cl : Nat} {ok : Nat → Prop} {w : World} {v : Value} {xs : List α} {es : Array MapEntry} (h : d.R e w base ok v xs) (hb : w.heap[b]? = some (.map es cl)) : ¬ v.ownBlock = some b := fun hk => by
  obtain ⟨inner, ho⟩ := Kd.R_own h
  obtain ⟨cells, hc⟩ := own_typed ho b hk
  rw [hb] at hc
  cases hc
set_option maxHeartbeats 8000000 in
theorem done_calls (w : World) (F : Nat → Prop) (p bn bs : Nat) (vl : Value) (st : DSt) (wr : Wr) (v : Value) (h : DskAt w F p bn bs vl st) (hok : st.Ok) (hv : RB w 0 F v wr.b) (hnm : wr.frm.size ≤ 32 ∧ wr.onto.size ≤ 32) (hsz : wr.b.length ≤ maxB) :
    Calls Try.prog 26 #[.pointer (some ⟨p, 0, none⟩), .agg #[.int .i64 wr.kind, .string wr.frm, .string wr.onto, v]] w fun e w' => ∃ vl', e = .returned (.int .i64 (doneR st)) ∧ DskAt w' (fun k => F k ∨ w.heap.size ≤ k) p bn bs vl' (doneS st wr) ∧ Chg F w w' := by
  obtain ⟨A, c, rfl, hlc, hC⟩ := RB_slice hv
  have hlw := blk_lt h.cell
  have hb0 := below_alloc (Below.refl w.heap.size w) (.cells #[.int .i64 wr.kind, .string wr.frm, .string wr.onto, .slice A wr.b.length c] 61)
  have hbx0 := blk_new w (.cells #[.int .i64 wr.kind, .string wr.frm, .string wr.onto, .slice A wr.b.length c] 61)
  have HB := Aside0.mk (burn_calls _ F p bn bs vl st (h.below hb0) hok)
  have HFP := Aside0.mk h.fp
  have HFB := Aside0.mk (show F bn from by obtain ⟨_, _, _, _, hq⟩ := h.now; exact hq)
  have HFV := Aside0.mk h.loose.1
  have HLV := Aside0.mk (Kd.R_lt h.loose)
  have HLB := Aside0.mk (show bn < w.heap.size from h.now.lt)
  have HPC0 := Aside0.mk (Apart.cells (E := [5]) (blk_below h.cell hb0) (by decide))
  have HZ0 := Aside0.mk (show (w.alloc (.cells #[.int .i64 wr.kind, .string wr.frm, .string wr.onto, .slice A wr.b.length c] 61)).heap.size = w.heap.size + 1 from Array.size_push ..)
  have hnl := hok.nl
  unfold maxN at hnl
  have HB0 := Aside0.mk hb0
  have HBX0 := Aside0.mk hbx0
  have HV0 := Aside0.mk (Kd.R_below hv hb0)
  have HOK := Aside0.mk hok
  clear hv hC hb0 hbx0 h hok
  cases hbb : burnB st with
  | false =>
    have e1 : doneR st = 6 := by unfold doneR; rw [hbb]; rfl
    have e2 : doneS st wr = burnS st := by unfold doneS; rw [hbb]; rfl
    rw [hbb] at HB
    have E1 := Aside0.mk e1
    have E2 := Aside0.mk e2
    clear hbb e1 e2
    go_enter Try.func26, Try.ntmps26
    go_wp2_with (go_at_call 28; refine HB.out.mono ?_; rintro e w2 ⟨rfl, hD2, hc2, hs2⟩; have HD2 := Aside0.mk hD2; have HC2 := Aside0.mk hc2; clear hD2 hc2 hs2)
    go_ret
    refine ⟨vl, ret_int E1.out.symm, ?_, ?_⟩
    · rw [E2.out]
      exact HD2.out.mono (fun k hk => .inl hk)
    · exact (Chg.of_below HB0.out F).then_ HC2.out (fun k hk => .inl (by rw [hk]; exact HFP.out))
  | true =>
    have e1 : doneR st = 0 := by unfold doneR; rw [hbb]; rfl
    have e2 : doneS st wr = { burnS st with loose := st.loose ++ [wr] } := by unfold doneS; rw [if_pos hbb]
    rw [hbb] at HB
    have E1 := Aside0.mk e1
    have E2 := Aside0.mk e2
    have HNW := Aside0.mk (doneS_now st wr hbb)
    have HN1 := Aside0.mk (burnS_now st)
    have HLO := Aside0.mk (burnS_loose st)
    clear hbb e1 e2
    go_enter Try.func26, Try.ntmps26
    go_wp2_with ((go_at_call 28; refine HB.out.mono ?_; rintro e w2 ⟨rfl, hD2, hc2, hs2⟩; have HD2 := Aside0.mk hD2; have HC2 := Aside0.mk hc2; have HS2 := Aside0.mk hs2; clear hD2 hc2 hs2))
    have HBX2 := Aside0.mk (HC2.out.blk HBX0.out (fun e => by omega))
    have HPB := Aside0.mk (fun e : p = bn => HD2.out.now.ne HD2.out.cell e.symm)
    have HWB := Aside0.mk (show ¬ w.heap.size = bn from fun e => by have := HLB.out; omega)
    have HV2 := Aside0.mk (Kd.R_drew (R_chgT HV0.out HC2.out HPC0.out))
    have HD2d := Aside0.mk (HD2.out.below (below_drew (Below.refl _ _)))
    obtain ⟨esB, clB, hmB⟩ := HD2d.out.now.isMap
    have HMB := Aside0.mk hmB
    clear hmB
    have HDO := Aside0.mk (do_calls w2.drew F bn (burnS st).now wr A c HD2d.out.now (Kd.R_reads' HV2.out).2.2 hnm (by rw [HN1.out]; have := HOK.out.len; unfold maxN at this ⊢; omega) (by rw [HN1.out]; have := HOK.out.usedLe; omega))
    go_wp2
    refine start_ (n := 6) (S := fun w' => w'.cell? ⟨p, 0, none⟩ = some (.map (some bn)) ∧ w'.cell? ⟨w.heap.size, 0, none⟩ = some (.int .i64 wr.kind) ∧ w'.cell? ⟨w.heap.size, 1, none⟩ = some (.string wr.frm) ∧ w'.cell? ⟨w.heap.size, 2, none⟩ = some (.string wr.onto) ∧ w'.cell? ⟨w.heap.size, 3, none⟩ = some (.slice A wr.b.length c)) (ds := []) #[false, false, false, false, false, false] (by kernel_rfl) rfl rfl ⟨(blk_cell (blk_drewN HD2.out.cell 1) 0).trans rfl, (blk_cell (blk_drewN HBX2.out 1) 0).trans rfl, (blk_cell (blk_drewN HBX2.out 1) 1).trans rfl, (blk_cell (blk_drewN HBX2.out 1) 2).trans rfl, (blk_cell (blk_drewN HBX2.out 1) 3).trans rfl⟩ (fun hHeld => ?_)
    refine pure_ (i := 0) (N := some 8) (v := ?_) (a' := ?_) #[true, false, false, false, false, false] rfl rfl (by kernel_rfl) (fun _ _ _ h => h) (Or.inl ⟨by rfl, ?_⟩) ?_ ?_
    rotate_left
    · intro w'
      go_simp
      with_reducible rfl
    rotate_left
    · simp only [Act.put, List.setIfInBounds_toArray, List.set_cons_zero, List.set_cons_succ, i64_w, i32_w]
      rfl
    refine pure_ (i := 1) (N := some 9) (v := ?_) (a' := ?_) #[true, true, false, false, false, false] rfl rfl (by kernel_rfl) (fun _ _ _ h => h) (Or.inl ⟨by rfl, ?_⟩) ?_ ?_
    rotate_left
    · intro w'
      go_simp
      with_reducible rfl
    rotate_left
    · simp only [Act.put, List.setIfInBounds_toArray, List.set_cons_zero, List.set_cons_succ, i64_w, i32_w]
      rfl
    refine pure_ (i := 2) (N := some 10) (v := ?_) (a' := ?_) #[true, true, true, false, false, false] rfl rfl (by kernel_rfl) (fun _ _ _ h => h) (Or.inl ⟨by rfl, ?_⟩) ?_ ?_
    rotate_left
    · intro w'
      go_simp
      with_reducible rfl
    rotate_left
    · simp only [Act.put, List.setIfInBounds_toArray, List.set_cons_zero, List.set_cons_succ, i64_w, i32_w]
      rfl
    refine take_ (i := 3) (N := some 11) (v := ?_) (a' := ?_) #[true, true, true, true, false, false] rfl rfl (by kernel_rfl) (fun _ _ _ h => h) (Or.inl ⟨by rfl, ?_⟩) hHeld ?_ ?_
    rotate_left
    · rintro w' ⟨s0, s1, s2, s3, s4⟩
      go_simp
      with_reducible rfl
    rotate_left
    · simp only [Act.put, List.setIfInBounds_toArray, List.set_cons_zero, List.set_cons_succ, i64_w, i32_w]
      rfl
    refine take_ (i := 4) (N := some 12) (v := ?_) (a' := ?_) #[true, true, true, true, true, false] rfl rfl (by kernel_rfl) (fun _ _ _ h => h) (Or.inl ⟨by rfl, ?_⟩) hHeld ?_ ?_
    rotate_left
    · rintro w' ⟨s0, s1, s2, s3, s4⟩
      go_simp
      with_reducible rfl
    rotate_left
    · simp only [Act.put, List.setIfInBounds_toArray, List.set_cons_zero, List.set_cons_succ, i64_w, i32_w]
      rfl
    refine one_ (i := 5) (N := some 13) #[true, true, true, true, true, true] rfl rfl (by kernel_rfl) (by decide) (fun K hK => ?_)
    refine goes_ Try.func38 (by kernel_rfl) rfl #[.map (some bn), (.agg #[.int .i64 wr.kind, .string wr.frm, .string wr.onto, .slice A wr.b.length c])] (by rfl) rfl rfl (by simp only [List.map_toArray, List.map_cons, List.map_nil]; rfl) ?_
    with_reducible refine (HDO.out).mono ?_
    rintro e w3 ⟨rfl, hF3, hc3⟩
    refine ⟨_, rfl, ?_⟩
    have HF3 := Aside0.mk hF3
    have HG3 := Aside0.mk hc3
    have HC3 := Aside0.mk (hc3.blk (blk_drewN HD2.out.cell 1) (HPB.out ·))
    have HBX3 := Aside0.mk (hc3.blk (blk_drewN HBX2.out 1) (HWB.out ·))
    clear hF3 hc3
    refine hK.out _ _ ⟨(blk_cell HC3.out 0).trans rfl, (blk_cell HBX3.out 0).trans rfl, (blk_cell HBX3.out 1).trans rfl, (blk_cell HBX3.out 2).trans rfl, (blk_cell HBX3.out 3).trans rfl⟩ (fun hHeld => ?_)
    clear hK K
    refine norm_ (a' := ?_) ?_ ?_
    rotate_left
    · show Act.put _ (some 13) _ = _
      simp only [Act.put, List.setIfInBounds_toArray, List.set_cons_zero, List.set_cons_succ, i64_w, i32_w]
      rfl
    refine done_ (by kernel_rfl) ?_
    have HSZ := Aside0.mk (show w.heap.size ≤ w3.heap.size from by have h1 := HZ0.out; have h2 := HS2.out; have h3 : w2.heap.size ≤ w3.heap.size := HG3.out.size; omega)
    have HL3 := Aside0.mk (R_chgT HD2d.out.loose HG3.out (Apart.map HMB.out))
    rw [HLO.out.1] at HL3
    have HV3 := Aside0.mk (R_chgT HV2.out HG3.out (Apart.map HMB.out))
    have HS3 := Aside0.mk (HD2d.out.sure.chgT HG3.out (Apart.map HMB.out) (fun e => HD2d.out.ne e.symm))
    have HL4 := Aside0.mk (Kd.R_drew (Kd.R_mono (ok' := fun k => F k ∨ w.heap.size ≤ k) HL3.out (fun k hk => .inl hk)))
    have HM4 := Aside0.mk (kWr_M (R_apart (Kd.R_drew HV3.out) (Kd.R_drew HL3.out) (by decide)))
    have HPV := Aside0.mk (Kd.R_ne HL3.out HC3.out (by decide))
    have HWV := Aside0.mk (show some w.heap.size ≠ vl.ownBlock from fun e => by have := HLV.out _ e.symm; omega)
    clear HDO HV2 HV0 HD2d
    go_wp2
    refine start_ (n := 11) (S := fun w' => w'.cell? ⟨p, 2, none⟩ = some vl ∧ w'.cell? ⟨w.heap.size, 0, none⟩ = some (.int .i64 wr.kind) ∧ w'.cell? ⟨w.heap.size, 1, none⟩ = some (.string wr.frm) ∧ w'.cell? ⟨w.heap.size, 2, none⟩ = some (.string wr.onto) ∧ w'.cell? ⟨w.heap.size, 3, none⟩ = some (.slice A wr.b.length c)) (ds := [10]) #[false, false, false, false, false, false, false, false, false, false, false] (by kernel_rfl) rfl rfl ⟨(blk_cell (blk_drewN HC3.out 1) 2).trans rfl, (blk_cell (blk_drewN HBX3.out 1) 0).trans rfl, (blk_cell (blk_drewN HBX3.out 1) 1).trans rfl, (blk_cell (blk_drewN HBX3.out 1) 2).trans rfl, (blk_cell (blk_drewN HBX3.out 1) 3).trans rfl⟩ (fun hHeld => ?_)
    refine pure_ (i := 0) (N := some 14) (v := ?_) (a' := ?_) #[true, false, false, false, false, false, false, false, false, false, false] rfl rfl (by kernel_rfl) (fun _ _ _ h => h) (Or.inl ⟨by rfl, ?_⟩) ?_ ?_
    rotate_left
    · intro w'
      go_simp
      with_reducible rfl
    rotate_left
    · simp only [Act.put, List.setIfInBounds_toArray, List.set_cons_zero, List.set_cons_succ, i64_w, i32_w]
      rfl
    refine pure_ (i := 1) (N := some 15) (v := ?_) (a' := ?_) #[true, true, false, false, false, false, false, false, false, false, false] rfl rfl (by kernel_rfl) (fun _ _ _ h => h) (Or.inl ⟨by rfl, ?_⟩) ?_ ?_
    rotate_left
    · intro w'
      go_simp
      with_reducible rfl
    rotate_left
    · simp only [Act.put, List.setIfInBounds_toArray, List.set_cons_zero, List.set_cons_succ, i64_w, i32_w]
      rfl
    refine pure_ (i := 2) (N := some 16) (v := ?_) (a' := ?_) #[true, true, true, false, false, false, false, false, false, false, false] rfl rfl (by kernel_rfl) (fun _ _ _ h => h) (Or.inl ⟨by rfl, ?_⟩) ?_ ?_
    rotate_left
    · intro w'
      go_simp
      with_reducible rfl
    rotate_left
    · simp only [Act.put, List.setIfInBounds_toArray, List.set_cons_zero, List.set_cons_succ, i64_w, i32_w]
      rfl
    refine pure_ (i := 3) (N := some 17) (v := ?_) (a' := ?_) #[true, true, true, true, false, false, false, false, false, false, false] rfl rfl (by kernel_rfl) (fun _ _ _ h => h) (Or.inl ⟨by rfl, ?_⟩) ?_ ?_
    rotate_left
    · intro w'
      go_simp
      with_reducible rfl
    rotate_left
    · simp only [Act.put, List.setIfInBounds_toArray, List.set_cons_zero, List.set_cons_succ, i64_w, i32_w]
      rfl
    refine take_ (i := 4) (N := some 18) (v := ?_) (a' := ?_) #[true, true, true, true, true, false, false, false, false, false, false] rfl rfl (by kernel_rfl) (fun _ _ _ h => h) (Or.inl ⟨by rfl, ?_⟩) hHeld ?_ ?_
    rotate_left
    · rintro w' ⟨s0, s1, s2, s3, s4⟩
      go_simp
      with_reducible rfl
    rotate_left
    · simp only [Act.put, List.setIfInBounds_toArray, List.set_cons_zero, List.set_cons_succ, i64_w, i32_w]
      rfl
    refine take_ (i := 5) (N := some 19) (v := ?_) (a' := ?_) #[true, true, true, true, true, true, false, false, false, false, false] rfl rfl (by kernel_rfl) (fun _ _ _ h => h) (Or.inl ⟨by rfl, ?_⟩) hHeld ?_ ?_
    rotate_left
    · rintro w' ⟨s0, s1, s2, s3, s4⟩
      go_simp
      with_reducible rfl
    rotate_left
    · simp only [Act.put, List.setIfInBounds_toArray, List.set_cons_zero, List.set_cons_succ, i64_w, i32_w]
      rfl
    refine one_ (i := 6) (N := some 20) #[true, true, true, true, true, true, true, false, false, false, false] rfl rfl (by kernel_rfl) (by decide) (fun K hK => ?_)
    refine value_ (w1 := ?_) (v := ?_) (by rfl) rfl ?_ ?_
    rotate_left 2
    · go_simp
      constructor
      · rfl
      · rfl
    refine hK.out _ _ ⟨(blk_cell (blk_alloc (blk_drewN HC3.out 1) _) 2).trans rfl, (blk_cell (blk_alloc (blk_drewN HBX3.out 1) _) 0).trans rfl, (blk_cell (blk_alloc (blk_drewN HBX3.out 1) _) 1).trans rfl, (blk_cell (blk_alloc (blk_drewN HBX3.out 1) _) 2).trans rfl, (blk_cell (blk_alloc (blk_drewN HBX3.out 1) _) 3).trans rfl⟩ (fun hHeld => ?_)
    clear hK K
    refine norm_ (a' := ?_) ?_ ?_
    rotate_left
    · show Act.put _ (some 20) _ = _
      simp only [Act.put, List.setIfInBounds_toArray, List.set_cons_zero, List.set_cons_succ, i64_w, i32_w]
      rfl
    refine one_ (i := 7) (N := some 21) #[true, true, true, true, true, true, true, true, false, false, false] rfl rfl (by kernel_rfl) (by decide) (fun K hK => ?_)
    refine Kd.R_append_step kWr (w0 := w3.drew) (W := w3.drew) 0 (by rfl) (.tmp 18) (.tmp 20) 55 61 (.agg #[.int .i64 0, .string ⟨#[]⟩, .string ⟨#[]⟩, .slice none 0 0]) 64 rfl Try.underlying55 infoWr rfl (by decide) (by omega) vl st.loose wr [.int .i64 wr.kind, .string wr.frm, .string wr.onto, .slice A wr.b.length c] (fun k => F k ∨ w.heap.size ≤ k) (fun k => F k ∧ some k ≠ vl.ownBlock) rfl rfl ?aM ?aK ?aF ?aO ?aB ?aS ?aL ?_
    (case aM => exact HM4.out)
    (case aK => exact fun k hk => ⟨.inl hk.1, hk.2⟩)
    (case aF => exact fun k hk => .inr (Nat.le_trans HSZ.out hk))
    (case aO => exact HL4.out)
    (case aB => exact Below.refl _ _)
    (case aS => exact Nat.zero_le _)
    (case aL => omega)
    intro v5 w5 ho5 hb5 hg5 hat5
    obtain ⟨A5, n5, c5, rfl⟩ : ∃ A n c, v5 = .slice A n c := by obtain ⟨A, c, e⟩ := Kd.R_slice ho5; exact ⟨A, _, c, e⟩
    have HO5 := Aside0.mk ho5
    have HG5 := Aside0.mk hg5
    have HAT5 := Aside0.mk hat5
    have HC5 := Aside0.mk (blk_grown (w := w3.drew) HC3.out hg5 HPV.out)
    have HBX5 := Aside0.mk (blk_grown (w := w3.drew) HBX3.out hg5 HWV.out)
    have hz52 := (blk_cell HC5.out 2).trans rfl
    have hf52 := blk_frozen HC5.out 2
    clear ho5 hb5 hg5 hat5
    refine hK.out _ _ ⟨(blk_cell HC5.out 2).trans rfl, (blk_cell HBX5.out 0).trans rfl, (blk_cell HBX5.out 1).trans rfl, (blk_cell HBX5.out 2).trans rfl, (blk_cell HBX5.out 3).trans rfl⟩ (fun hHeld => ?_)
    clear hK K
    refine norm_ (a' := ?_) ?_ ?_
    rotate_left
    · show Act.put _ (some 21) _ = _
      simp only [Act.put, List.setIfInBounds_toArray, List.set_cons_zero, List.set_cons_succ, i64_w, i32_w]
      rfl
    refine pure_ (i := 8) (N := some 22) (v := ?_) (a' := ?_) #[true, true, true, true, true, true, true, true, true, false, false] rfl rfl (by kernel_rfl) (fun _ _ _ h => h) (Or.inl ⟨by rfl, ?_⟩) ?_ ?_
    rotate_left
    · intro w'
      go_simp
      with_reducible rfl
    rotate_left
    · simp only [Act.put, List.setIfInBounds_toArray, List.set_cons_zero, List.set_cons_succ, i64_w, i32_w]
      rfl
    refine pure_ (i := 9) (N := some 23) (v := ?_) (a' := ?_) #[true, true, true, true, true, true, true, true, true, true, false] rfl rfl (by kernel_rfl) (fun _ _ _ h => h) (Or.inl ⟨by rfl, ?_⟩) ?_ ?_
    rotate_left
    · intro w'
      go_simp
      with_reducible rfl
    rotate_left
    · simp only [Act.put, List.setIfInBounds_toArray, List.set_cons_zero, List.set_cons_succ, i64_w, i32_w]
      rfl
    refine last_ (i := 10) (N := none) #[true, true, true, true, true, true, true, true, true, true, true] rfl rfl (by kernel_rfl) (by decide) (fun K hK => ?_)
    refine skip_ (w1 := ?_) (by rfl) rfl ?_ ?_
    rotate_left
    · go_simp
      rfl
    refine hK.out _ _ ?_
    clear hK K
    refine done_ (by kernel_rfl) ?_
    go_wp2
    go_ret
    have HQ5 := Aside0.mk (Chg.of_grown (F := fun k => vl.ownBlock = some k) HG5.out (fun k hk => .inl hk))
    have hApV := Apart.row (E := [5]) (Kd.R_drew HL3.out) (by decide)
    have hF3d := HF3.out.below (below_drew (Below.refl _ _))
    have hS3d := HS3.out.below (below_drew (Below.refl _ _))
    obtain ⟨es3, cl3, hm3⟩ := hF3d.isMap
    obtain ⟨es4, cl4, hm4⟩ := hS3d.isMap
    have hF5 := hF3d.chgT HQ5.out hApV (R_neMap (Kd.R_drew HL3.out) hm3)
    have hS5 := hS3d.chgT HQ5.out hApV (R_neMap (Kd.R_drew HL3.out) hm4)
    have hF6 := hF5.chgT (Chg.set w5 p 2 (.slice A5 n5 c5)) (Apart.cells HC5.out (by decide)) (fun e => hF5.ne HC5.out e)
    have hS6 := hS5.chgT (Chg.set w5 p 2 (.slice A5 n5 c5)) (Apart.cells HC5.out (by decide)) (fun e => hS5.ne HC5.out e)
    have hz2 := HS2.out
    have hz0 := HZ0.out
    have hz3 : w2.heap.size ≤ w3.heap.size := HG3.out.size
    have hw2 : w.heap.size ≤ w2.heap.size := by omega
    refine ⟨.slice A5 n5 c5, ret_int E1.out.symm, ⟨?_, ?_, ?_, HD2.out.ne, ?_, .inl HFP.out⟩, ?_⟩
    · rw [E2.out]
      exact blk_put (cs := #[.map (some bn), .map (some bs), vl, .int .i64 (burnS st).room, .int .i64 (burnS st).fuse, .bool (burnS st).down]) HC5.out 2 _ rfl
    · rw [HNW.out, ← HN1.out]
      exact hF6.mono (fun k hk => hk.elim .inl (fun h => .inr (Nat.le_trans hw2 h)))
    · rw [E2.out]
      exact hS6.mono (fun k hk => .inl hk)
    · rw [E2.out]
      exact R_chgT HO5.out (Chg.set w5 p 2 (.slice A5 n5 c5)) (Apart.cells HC5.out (by decide))
    · refine ((((Chg.of_below HB0.out F).then_ HC2.out (fun k hk => .inl (by rw [hk]; exact HFP.out))).drew.then_ HG3.out (fun k hk => .inl (by rw [hk]; exact HFB.out))).drew.then_ HQ5.out (fun k hk => .inl (HFV.out k hk))).then_ (Chg.set w5 p 2 _) (fun k hk => .inl (by rw [hk]; exact HFP.out))
end Go.Proofs.Ytipclnniaenciaa.Hand
