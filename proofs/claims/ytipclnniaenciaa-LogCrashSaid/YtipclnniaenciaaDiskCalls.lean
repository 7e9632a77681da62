/- Remove, Rename, Read and Sync, over memory. -/
import Derived.Test.YtipclnniaenciaaDiskAppend
namespace Go.Proofs.Ytipclnniaenciaa.Hand
open Go.RowKit Go.Maps Go.Proofs.YtipclnniaenciaaW.PrintWords Go.Proofs.YtipclnniaenciaaW.PrintLast Go.Proofs.YtipclnniaenciaaW.PrintMore
set_option linter.unusedVariables false
set_option linter.unusedSimpArgs false
theorem good32 {s : ByteArray} (h : goodName s = true) : s.size ≤ 32 := by
  unfold goodName at h
  simp only [Bool.and_eq_true, decide_eq_true_eq] at h
  exact h.2
set_option maxHeartbeats 8000000 in
theorem Remove_calls (w : World) (F : Nat → Prop) (p bn bs : Nat) (vl : Value) (st : DSt) (s : ByteArray) (h : DskAt w F p bn bs vl st) (hok : st.Ok) (hs : s.size ≤ maxLen) :
    Calls Try.prog 31 #[.pointer (some ⟨p, 0, none⟩), .string s] w fun e w' => ∃ vl', e = .returned (.int .i64 (removeR st s)) ∧ DskAt w' (fun k => F k ∨ w.heap.size ≤ k) p bn bs vl' (removeS st s) ∧ Chg F w w' := by
  have HD := Aside0.mk h
  have HOK := Aside0.mk hok
  have HNs := Aside0.mk (fun W : World => name_calls s hs W)
  have HTH := Aside0.mk (fun (W : World) (hW : DskAt W F p bn bs vl st) => there_calls W F p bn bs vl st s hW hs)
  clear h hok
  cases hgs : goodName s with
  | false =>
    have E1 := Aside0.mk (show removeR st s = 1 from by unfold removeR; rw [if_pos hgs])
    have E2 := Aside0.mk (show removeS st s = st from by unfold removeS; rw [if_pos hgs])
    rw [hgs] at HNs
    clear hgs
    go_enter Try.func31, Try.ntmps31
    go_wp2_with fail; refine (HNs.out _).mono ?_; rintro e w1 ⟨rfl, ⟨q1, rfl⟩⟩
    go_wp2
    go_ret
    exact ⟨vl, ret_int E1.out.symm, by rw [E2.out]; exact (HD.out.drewN q1).mono (fun k hk => .inl hk), Chg.of_below (pw_below_drewN (Below.refl w.heap.size w) q1) F⟩
  | true =>
    cases hd : st.down with
    | true =>
      have E1 := Aside0.mk (show removeR st s = 6 from by unfold removeR; rw [if_neg (by rw [hgs]; simp), if_pos hd])
      have E2 := Aside0.mk (show removeS st s = st from by unfold removeS; rw [if_neg (by rw [hgs]; simp), if_pos hd])
      rw [hgs] at HNs
      have HDN := Aside0.mk hd
      clear hd hgs
      go_enter Try.func31, Try.ntmps31
      go_wp2_with fail; refine (HNs.out _).mono ?_; rintro e w1 ⟨rfl, ⟨q1, rfl⟩⟩
      have hz5 : (w.drewN q1).cell? ⟨p, 5, none⟩ = some (.bool st.down) := (blk_cell (HD.out.drewN q1).cell 5).trans rfl
      rw [HDN.out] at hz5
      go_wp2
      go_ret
      exact ⟨vl, ret_int E1.out.symm, by rw [E2.out]; exact (HD.out.drewN q1).mono (fun k hk => .inl hk), Chg.of_below (pw_below_drewN (Below.refl w.heap.size w) q1) F⟩
    | false =>
      cases hl : (look s st.now).isSome with
      | false =>
        have E1 := Aside0.mk (show removeR st s = 3 from by unfold removeR; rw [if_neg (by rw [hgs]; simp), if_neg (by rw [hd]; simp), if_pos hl])
        have E2 := Aside0.mk (show removeS st s = st from by unfold removeS; rw [if_neg (by rw [hgs]; simp), if_neg (by rw [hd]; simp), if_pos hl])
        rw [hgs] at HNs
        rw [hl] at HTH
        have HDN := Aside0.mk hd
        clear hl hd hgs
        go_enter Try.func31, Try.ntmps31
        go_wp2_with fail; refine (HNs.out _).mono ?_; rintro e w1 ⟨rfl, ⟨q1, rfl⟩⟩
        have hz5 : (w.drewN q1).cell? ⟨p, 5, none⟩ = some (.bool st.down) := (blk_cell (HD.out.drewN q1).cell 5).trans rfl
        rw [HDN.out] at hz5
        go_wp2_with fail; refine (HTH.out _ (HD.out.drewN q1)).mono ?_; rintro e w9 ⟨rfl, rfl⟩
        go_wp2
        go_ret
        exact ⟨vl, ret_int E1.out.symm, by rw [E2.out]; exact (HD.out.drewN q1).mono (fun k hk => .inl hk), Chg.of_below (pw_below_drewN (Below.refl w.heap.size w) q1) F⟩
      | true =>
        have E1 := Aside0.mk (show removeR st s = doneR st from by unfold removeR; rw [if_neg (by rw [hgs]; simp), if_neg (by rw [hd]; simp), if_neg (by rw [hl]; simp)])
        have E2 := Aside0.mk (show removeS st s = doneS st ⟨2, s, ⟨#[]⟩, []⟩ from by unfold removeS; rw [if_neg (by rw [hgs]; simp), if_neg (by rw [hd]; simp), if_neg (by rw [hl]; simp)])
        have H32s := Aside0.mk (good32 hgs)
        rw [hgs] at HNs
        rw [hl] at HTH
        have HDN := Aside0.mk hd
        clear hl hd hgs
        go_enter Try.func31, Try.ntmps31
        go_wp2_with fail; refine (HNs.out _).mono ?_; rintro e w1 ⟨rfl, ⟨q1, rfl⟩⟩
        have hz5 : (w.drewN q1).cell? ⟨p, 5, none⟩ = some (.bool st.down) := (blk_cell (HD.out.drewN q1).cell 5).trans rfl
        rw [HDN.out] at hz5
        go_wp2_with fail; refine (HTH.out _ (HD.out.drewN q1)).mono ?_; rintro e w9 ⟨rfl, rfl⟩
        go_wp2_with fail; refine (done_calls _ F p bn bs vl st ⟨2, s, ⟨#[]⟩, []⟩ (.slice none 0 0) (HD.out.drewN q1) HOK.out (Kd.R_nil _ _ _ _ _) ⟨H32s.out, Nat.zero_le _⟩ (Nat.zero_le _)).mono ?_; rintro e w6 ⟨vl', rfl, hD6, hc6⟩
        have HD6 := Aside0.mk hD6
        have HC6 := Aside0.mk hc6
        clear hD6 hc6
        go_wp2
        go_ret
        exact ⟨vl', ret_int E1.out.symm, by rw [E2.out]; exact HD6.out, (Chg.of_below (pw_below_drewN (Below.refl w.heap.size w) q1) F).then_ HC6.out (fun k hk => .inl hk)⟩
set_option maxHeartbeats 8000000 in
theorem Rename_calls (w : World) (F : Nat → Prop) (p bn bs : Nat) (vl : Value) (st : DSt) (s t : ByteArray) (h : DskAt w F p bn bs vl st) (hok : st.Ok) (hs : s.size ≤ maxLen) (ht : t.size ≤ maxLen) :
    Calls Try.prog 40 #[.pointer (some ⟨p, 0, none⟩), .string s, .string t] w fun e w' => ∃ vl', e = .returned (.int .i64 (renameR st s t)) ∧ DskAt w' (fun k => F k ∨ w.heap.size ≤ k) p bn bs vl' (renameS st s t) ∧ Chg F w w' := by
  have HD := Aside0.mk h
  have HOK := Aside0.mk hok
  have HNs := Aside0.mk (fun W : World => name_calls s hs W)
  have HNt := Aside0.mk (fun W : World => name_calls t ht W)
  have HTH := Aside0.mk (fun (W : World) (hW : DskAt W F p bn bs vl st) => there_calls W F p bn bs vl st s hW hs)
  clear h hok
  cases hgs : goodName s with
  | false =>
    have E1 := Aside0.mk (show renameR st s t = 1 from by unfold renameR; rw [if_pos hgs])
    have E2 := Aside0.mk (show renameS st s t = st from by unfold renameS; rw [if_pos hgs])
    rw [hgs] at HNs
    clear hgs
    go_enter Try.func40, Try.ntmps40
    go_wp2_with fail; refine (HNs.out _).mono ?_; rintro e w1 ⟨rfl, ⟨q1, rfl⟩⟩
    go_wp2
    go_ret
    exact ⟨vl, ret_int E1.out.symm, by rw [E2.out]; exact (HD.out.drewN q1).mono (fun k hk => .inl hk), Chg.of_below (pw_below_drewN (Below.refl w.heap.size w) q1) F⟩
  | true =>
    cases hgt : goodName t with
    | false =>
      have E1 := Aside0.mk (show renameR st s t = 1 from by unfold renameR; rw [if_neg (by rw [hgs]; simp), if_pos hgt])
      have E2 := Aside0.mk (show renameS st s t = st from by unfold renameS; rw [if_neg (by rw [hgs]; simp), if_pos hgt])
      rw [hgs] at HNs
      rw [hgt] at HNt
      clear hgs hgt
      go_enter Try.func40, Try.ntmps40
      go_wp2_with fail; refine (HNs.out _).mono ?_; rintro e w1 ⟨rfl, ⟨q1, rfl⟩⟩
      go_wp2_with fail; refine (HNt.out _).mono ?_; rintro e w2 ⟨rfl, ⟨q2, rfl⟩⟩
      go_wp2
      go_ret
      exact ⟨vl, ret_int E1.out.symm, by rw [E2.out]; exact (HD.out.drewN (q1 + q2)).mono (fun k hk => .inl hk), Chg.of_below (pw_below_drewN (Below.refl w.heap.size w) (q1 + q2)) F⟩
    | true =>
      cases hd : st.down with
      | true =>
        have E1 := Aside0.mk (show renameR st s t = 6 from by unfold renameR; rw [if_neg (by rw [hgs]; simp), if_neg (by rw [hgt]; simp), if_pos hd])
        have E2 := Aside0.mk (show renameS st s t = st from by unfold renameS; rw [if_neg (by rw [hgs]; simp), if_neg (by rw [hgt]; simp), if_pos hd])
        rw [hgs] at HNs
        rw [hgt] at HNt
        have HDN := Aside0.mk hd
        clear hd hgs hgt
        go_enter Try.func40, Try.ntmps40
        go_wp2_with fail; refine (HNs.out _).mono ?_; rintro e w1 ⟨rfl, ⟨q1, rfl⟩⟩
        go_wp2_with fail; refine (HNt.out _).mono ?_; rintro e w2 ⟨rfl, ⟨q2, rfl⟩⟩
        have hz5 : (w.drewN (q1 + q2)).cell? ⟨p, 5, none⟩ = some (.bool st.down) := (blk_cell (HD.out.drewN (q1 + q2)).cell 5).trans rfl
        rw [HDN.out] at hz5
        go_wp2
        go_ret
        exact ⟨vl, ret_int E1.out.symm, by rw [E2.out]; exact (HD.out.drewN (q1 + q2)).mono (fun k hk => .inl hk), Chg.of_below (pw_below_drewN (Below.refl w.heap.size w) (q1 + q2)) F⟩
      | false =>
        cases hl : (look s st.now).isSome with
        | false =>
          have E1 := Aside0.mk (show renameR st s t = 3 from by unfold renameR; rw [if_neg (by rw [hgs]; simp), if_neg (by rw [hgt]; simp), if_neg (by rw [hd]; simp), if_pos hl])
          have E2 := Aside0.mk (show renameS st s t = st from by unfold renameS; rw [if_neg (by rw [hgs]; simp), if_neg (by rw [hgt]; simp), if_neg (by rw [hd]; simp), if_pos hl])
          rw [hgs] at HNs
          rw [hgt] at HNt
          rw [hl] at HTH
          have HDN := Aside0.mk hd
          clear hl hd hgs hgt
          go_enter Try.func40, Try.ntmps40
          go_wp2_with fail; refine (HNs.out _).mono ?_; rintro e w1 ⟨rfl, ⟨q1, rfl⟩⟩
          go_wp2_with fail; refine (HNt.out _).mono ?_; rintro e w2 ⟨rfl, ⟨q2, rfl⟩⟩
          have hz5 : (w.drewN (q1 + q2)).cell? ⟨p, 5, none⟩ = some (.bool st.down) := (blk_cell (HD.out.drewN (q1 + q2)).cell 5).trans rfl
          rw [HDN.out] at hz5
          go_wp2_with fail; refine (HTH.out _ (HD.out.drewN (q1 + q2))).mono ?_; rintro e w9 ⟨rfl, rfl⟩
          go_wp2
          go_ret
          exact ⟨vl, ret_int E1.out.symm, by rw [E2.out]; exact (HD.out.drewN (q1 + q2)).mono (fun k hk => .inl hk), Chg.of_below (pw_below_drewN (Below.refl w.heap.size w) (q1 + q2)) F⟩
        | true =>
          have E1 := Aside0.mk (show renameR st s t = doneR st from by unfold renameR; rw [if_neg (by rw [hgs]; simp), if_neg (by rw [hgt]; simp), if_neg (by rw [hd]; simp), if_neg (by rw [hl]; simp)])
          have E2 := Aside0.mk (show renameS st s t = doneS st ⟨1, s, t, []⟩ from by unfold renameS; rw [if_neg (by rw [hgs]; simp), if_neg (by rw [hgt]; simp), if_neg (by rw [hd]; simp), if_neg (by rw [hl]; simp)])
          have H32s := Aside0.mk (good32 hgs)
          have H32t := Aside0.mk (good32 hgt)
          rw [hgs] at HNs
          rw [hgt] at HNt
          rw [hl] at HTH
          have HDN := Aside0.mk hd
          clear hl hd hgs hgt
          go_enter Try.func40, Try.ntmps40
          go_wp2_with fail; refine (HNs.out _).mono ?_; rintro e w1 ⟨rfl, ⟨q1, rfl⟩⟩
          go_wp2_with fail; refine (HNt.out _).mono ?_; rintro e w2 ⟨rfl, ⟨q2, rfl⟩⟩
          have hz5 : (w.drewN (q1 + q2)).cell? ⟨p, 5, none⟩ = some (.bool st.down) := (blk_cell (HD.out.drewN (q1 + q2)).cell 5).trans rfl
          rw [HDN.out] at hz5
          go_wp2_with fail; refine (HTH.out _ (HD.out.drewN (q1 + q2))).mono ?_; rintro e w9 ⟨rfl, rfl⟩
          go_wp2_with fail; refine (done_calls _ F p bn bs vl st ⟨1, s, t, []⟩ (.slice none 0 0) (HD.out.drewN (q1 + q2)) HOK.out (Kd.R_nil _ _ _ _ _) ⟨H32s.out, H32t.out⟩ (Nat.zero_le _)).mono ?_; rintro e w6 ⟨vl', rfl, hD6, hc6⟩
          have HD6 := Aside0.mk hD6
          have HC6 := Aside0.mk hc6
          clear hD6 hc6
          go_wp2
          go_ret
          exact ⟨vl', ret_int E1.out.symm, by rw [E2.out]; exact HD6.out, (Chg.of_below (pw_below_drewN (Below.refl w.heap.size w) (q1 + q2)) F).then_ HC6.out (fun k hk => .inl hk)⟩
set_option maxHeartbeats 8000000 in
theorem Read_calls (w : World) (F : Nat → Prop) (p bn bs : Nat) (vl : Value) (st : DSt) (s : ByteArray) (h : DskAt w F p bn bs vl st) (hok : st.Ok) (hs : s.size ≤ maxLen) :
    Calls Try.prog 17 #[.pointer (some ⟨p, 0, none⟩), .string s] w fun e w' => ∃ v, e = .returned (.tuple #[v, .int .i64 (readR st s)]) ∧ RB w' w.heap.size (fun k => w.heap.size ≤ k) v (readB st s) ∧ Below w.heap.size w w' := by
  have HD := Aside0.mk h
  have HOK := Aside0.mk hok
  have HNs := Aside0.mk (fun W : World => name_calls s hs W)
  have HTH := Aside0.mk (fun (W : World) (hW : DskAt W F p bn bs vl st) => there_calls W F p bn bs vl st s hW hs)
  clear h hok
  cases hgs : goodName s with
  | false =>
    have E1 := Aside0.mk (show readR st s = 1 from by unfold readR; rw [if_pos hgs])
    have E2 := Aside0.mk (show readB st s = [] from by unfold readB; rw [if_pos hgs])
    rw [hgs] at HNs
    clear hgs
    go_enter Try.func17, Try.ntmps17
    go_wp2_with fail; refine (HNs.out _).mono ?_; rintro e w1 ⟨rfl, ⟨q1, rfl⟩⟩
    go_wp2
    go_ret2
    exact ⟨.slice none 0 0, by rw [E1.out]; rfl, by rw [E2.out]; exact Kd.R_nil _ _ _ _ _, (pw_below_drewN (Below.refl w.heap.size w) q1)⟩
  | true =>
    cases hd : st.down with
    | true =>
      have E1 := Aside0.mk (show readR st s = 6 from by unfold readR; rw [if_neg (by rw [hgs]; simp), if_pos hd])
      have E2 := Aside0.mk (show readB st s = [] from by unfold readB; rw [if_neg (by rw [hgs]; simp), if_pos hd])
      rw [hgs] at HNs
      have HDN := Aside0.mk hd
      clear hd hgs
      go_enter Try.func17, Try.ntmps17
      go_wp2_with fail; refine (HNs.out _).mono ?_; rintro e w1 ⟨rfl, ⟨q1, rfl⟩⟩
      have hz5 : (w.drewN q1).cell? ⟨p, 5, none⟩ = some (.bool st.down) := (blk_cell (HD.out.drewN q1).cell 5).trans rfl
      rw [HDN.out] at hz5
      go_wp2
      go_ret2
      exact ⟨.slice none 0 0, by rw [E1.out]; rfl, by rw [E2.out]; exact Kd.R_nil _ _ _ _ _, (pw_below_drewN (Below.refl w.heap.size w) q1)⟩
    | false =>
      cases hl : (look s st.now).isSome with
      | false =>
        have E1 := Aside0.mk (show readR st s = 3 from by unfold readR; rw [if_neg (by rw [hgs]; simp), if_neg (by rw [hd]; simp), if_pos hl])
        have E2 := Aside0.mk (show readB st s = [] from by unfold readB; rw [if_neg (by rw [hgs]; simp), if_neg (by rw [hd]; simp)]; unfold bytesAt; rw [Option.isSome_eq_false_iff, Option.isNone_iff_eq_none] at hl; rw [hl]; rfl)
        rw [hgs] at HNs
        rw [hl] at HTH
        have HDN := Aside0.mk hd
        clear hl hd hgs
        go_enter Try.func17, Try.ntmps17
        go_wp2_with fail; refine (HNs.out _).mono ?_; rintro e w1 ⟨rfl, ⟨q1, rfl⟩⟩
        have hz5 : (w.drewN q1).cell? ⟨p, 5, none⟩ = some (.bool st.down) := (blk_cell (HD.out.drewN q1).cell 5).trans rfl
        rw [HDN.out] at hz5
        go_wp2_with fail; refine (HTH.out _ (HD.out.drewN q1)).mono ?_; rintro e w9 ⟨rfl, rfl⟩
        go_wp2
        go_ret2
        exact ⟨.slice none 0 0, by rw [E1.out]; rfl, by rw [E2.out]; exact Kd.R_nil _ _ _ _ _, (pw_below_drewN (Below.refl w.heap.size w) q1)⟩
      | true =>
        have E1 := Aside0.mk (show readR st s = 0 from by unfold readR; rw [if_neg (by rw [hgs]; simp), if_neg (by rw [hd]; simp), if_neg (by rw [hl]; simp)])
        have E2 := Aside0.mk (show readB st s = bytesAt s st.now from by unfold readB; rw [if_neg (by rw [hgs]; simp), if_neg (by rw [hd]; simp)])
        have H32s := Aside0.mk (good32 hgs)
        rw [hgs] at HNs
        rw [hl] at HTH
        have HDN := Aside0.mk hd
        clear hl hd hgs
        have hul := HOK.out.usedLe
        have hlk := used_look s st.now
        unfold maxB at hul
        obtain ⟨v, hlv, hv⟩ := HD.out.now.at_ s hs
        obtain ⟨A, c, rfl, hc, hC⟩ := RB_slice hv
        have HCC := Aside0.mk hC
        have HLV := Aside0.mk hlv
        clear hlv hv hC
        go_enter Try.func17, Try.ntmps17
        go_wp2_with fail; refine (HNs.out _).mono ?_; rintro e w1 ⟨rfl, ⟨q1, rfl⟩⟩
        have hz5 : (w.drewN q1).cell? ⟨p, 5, none⟩ = some (.bool st.down) := (blk_cell (HD.out.drewN q1).cell 5).trans rfl
        rw [HDN.out] at hz5
        have hz0 : (w.drewN q1).cell? ⟨p, 0, none⟩ = some (.map (some bn)) := (blk_cell (HD.out.drewN q1).cell 0).trans rfl
        have hrun := (HLV.out (w.drewN q1) (fun k _ hk => ((pw_below_drewN (Below.refl w.heap.size w) q1)).block k hk)).1
        go_wp2_with fail; refine (HTH.out _ (HD.out.drewN q1)).mono ?_; rintro e w9 ⟨rfl, rfl⟩
        go_wp2_with fail; refine (clone_calls (w.drewN q1) A _ c (bytesAt s st.now) (Kd.C_below HCC.out (pw_below_drewN (Below.refl w.heap.size w) q1)) rfl (by omega)).mono ?_; rintro e w5 ⟨v5, rfl, hR5, hb5⟩; obtain ⟨A5, n5, c5, rfl⟩ : ∃ A n c, v5 = .slice A n c := by obtain ⟨A, c, e, _⟩ := RB_slice hR5; exact ⟨A, _, c, e⟩
        have HR5 := Aside0.mk hR5
        have HB5 := Aside0.mk hb5
        clear hR5 hb5
        go_wp2
        go_ret2
        exact ⟨.slice A5 n5 c5, by rw [E1.out]; rfl, by rw [E2.out]; exact HR5.out, ((pw_below_drewN (Below.refl w.heap.size w) q1)).trans HB5.out⟩
set_option maxHeartbeats 8000000 in
theorem Sync_calls (w : World) (F : Nat → Prop) (p bn bs : Nat) (vl : Value) (st : DSt) (h : DskAt w F p bn bs vl st) (hok : st.Ok) :
    Calls Try.prog 11 #[.pointer (some ⟨p, 0, none⟩)] w fun e w' => ∃ bs' vl', e = .returned (.int .i64 (doneR st)) ∧ DskAt w' (fun k => F k ∨ w.heap.size ≤ k) p bn bs' vl' (syncS st) ∧ Chg F w w' := by
  have HB := Aside0.mk (burn_calls w F p bn bs vl st h hok)
  have HFP := Aside0.mk h.fp
  have HLN := Aside0.mk (show bn < w.heap.size from h.now.lt)
  have HOK := Aside0.mk hok
  clear h hok
  cases hbb : burnB st with
  | false =>
    have E1 := Aside0.mk (show doneR st = 6 from by unfold doneR; rw [hbb]; rfl)
    have E2 := Aside0.mk (show syncS st = burnS st from by unfold syncS; rw [hbb]; rfl)
    rw [hbb] at HB
    clear hbb
    go_enter Try.func11, Try.ntmps11
    go_wp2_with fail
    refine HB.out.mono ?_
    rintro e w2 ⟨rfl, hD2, hc2, hs2⟩
    have HD2 := Aside0.mk hD2
    have HC2 := Aside0.mk hc2
    clear hD2 hc2 hs2
    go_wp2
    go_ret
    exact ⟨bs, vl, ret_int E1.out.symm, by rw [E2.out]; exact HD2.out.mono (fun k hk => .inl hk), HC2.out.mono (fun k hk => .inl (by rw [hk]; exact HFP.out))⟩
  | true =>
    have E1 := Aside0.mk (show doneR st = 0 from by unfold doneR; rw [hbb]; rfl)
    have E2 := Aside0.mk (show syncS st = { burnS st with sure := st.now, loose := [] } from by unfold syncS; rw [if_pos hbb])
    have HN1 := Aside0.mk (burnS_now st)
    rw [hbb] at HB
    clear hbb
    go_enter Try.func11, Try.ntmps11
    go_wp2_with fail
    refine HB.out.mono ?_
    rintro e w2 ⟨rfl, hD2, hc2, hs2⟩
    have hz20 := (blk_cell hD2.cell 0).trans rfl
    have HCP := Aside0.mk (copied_calls w2 F bn (burnS st).now hD2.now (by rw [HN1.out]; exact HOK.out.names) (by rw [HN1.out]; have := HOK.out.len; unfold maxN at *; omega) (by rw [HN1.out]; have := HOK.out.usedLe; omega))
    have HD2 := Aside0.mk hD2
    have HC2 := Aside0.mk hc2
    have HS2 := Aside0.mk hs2
    clear hD2 hc2 hs2
    go_wp2_with fail
    refine HCP.out.mono ?_
    rintro e w3 ⟨b3, rfl, hle3, hF3, hb3⟩
    have hD3 := HD2.out.below hb3
    have hpl := blk_lt HD2.out.cell
    have hf31 := blk_frozen hD3.cell 1
    have hf32 := blk_frozen hD3.cell 2
    have hz31 := (blk_cell hD3.cell 1).trans rfl
    have hz32 := (blk_cell hD3.cell 2).trans rfl
    have HD3 := Aside0.mk hD3
    have HF3 := Aside0.mk hF3
    have HB3 := Aside0.mk hb3
    have hlb : bn < w2.heap.size := HD2.out.now.lt
    have hF3p := hF3.ne hD3.cell
    clear hD3 hF3 hb3
    go_wp2
    go_ret
    have hc4 := Chg.set w3 p 1 (.map (some b3))
    have hb4 := blk_put (cs := #[.map (some bn), .map (some bs), vl, .int .i64 (burnS st).room, .int .i64 (burnS st).fuse, .bool (burnS st).down]) HD3.out.cell 1 (.map (some b3)) rfl
    have hc5 := Chg.set (w3.setCell ⟨p, 1, none⟩ (.map (some b3))) p 2 (.slice none 0 0)
    have hb5 := blk_put hb4 2 (.slice none 0 0) rfl
    have hws : w.heap.size = w2.heap.size := HS2.out.symm
    refine ⟨b3, .slice none 0 0, ret_int E1.out.symm, ⟨?_, ?_, ?_, by omega, ?_, .inl HFP.out⟩, ?_⟩
    · rw [E2.out]
      exact hb5
    · rw [E2.out]
      have hn : ({ burnS st with sure := st.now, loose := [] } : DSt).now = (burnS st).now := HN1.out.symm
      rw [hn]
      exact ((HD3.out.now.other HD3.out.cell (by decide) hc4).other hb4 (by decide) hc5).mono (fun k hk => .inl hk)
    · rw [E2.out]
      have hn : ({ burnS st with sure := st.now, loose := [] } : DSt).sure = (burnS st).now := HN1.out.symm
      rw [hn]
      exact ((HF3.out.other HD3.out.cell (by decide) hc4).other hb4 (by decide) hc5).mono (fun k hk => .inr (by omega))
    · rw [E2.out]
      exact Kd.R_nil _ _ _ _ _
    · exact (((HC2.out.mono (fun k hk => .inl (by rw [hk]; exact HFP.out))).below HB3.out).then_ hc4 (fun k hk => .inl (by rw [hk]; exact HFP.out))).then_ hc5 (fun k hk => .inl (by rw [hk]; exact HFP.out))
end Go.Proofs.Ytipclnniaenciaa.Hand
