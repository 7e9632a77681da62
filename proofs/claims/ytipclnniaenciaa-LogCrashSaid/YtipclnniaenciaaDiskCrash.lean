/- Crash, over memory. -/
import Derived.Test.YtipclnniaenciaaDiskCalls
namespace Go.Proofs.Ytipclnniaenciaa.Hand
open Go.RowKit Go.Maps Go.Proofs.YtipclnniaenciaaW.PrintWords Go.Proofs.YtipclnniaenciaaW.PrintLast Go.Proofs.YtipclnniaenciaaW.PrintMore
set_option linter.unusedVariables false
set_option linter.unusedSimpArgs false
theorem max_mx (ats : Array TypeId) (ty : TypeId) (k k' : IntKind) (x y : Int) : Builtin.max_ ats ty #[.int k x, .int k' y] = (pure (.int k (mx x y)) : Sem Value) := by
  rw [max_two, max2_int]
  rfl
theorem min_mn (ats : Array TypeId) (ty : TypeId) (k k' : IntKind) (x y : Int) : Builtin.min_ ats ty #[.int k x, .int k' y] = (pure (.int k (mn x y)) : Sem Value) := by
  rw [min_two, min2_int]
  rfl
attribute [local go_sem high] max_mx min_mn
theorem keep_mn (st : DSt) (keep : Int) : mn (mx keep 0) (st.loose.length : Int) = (keepN st keep : Int) := by
  unfold mn mx keepN
  repeat' split
  all_goals omega
/-- A loose write in its row. -/
theorem loose_at {w : World} {F : Nat → Prop} {vl : Value} {l : List Wr} (h : kWr.R 61 w 0 F vl l) (i : Nat) (wr : Wr) (hi : l[i]? = some wr) :
    ∃ g cap A c, vl = .slice (some ⟨g, 0, none⟩) l.length cap ∧ CB w A wr.b ∧ wr.b.length ≤ c ∧
      w.cell? ⟨g, i * 4, none⟩ = some (.int .i64 wr.kind) ∧ w.cell? ⟨g, i * 4 + 1, none⟩ = some (.string wr.frm) ∧ w.cell? ⟨g, i * 4 + 2, none⟩ = some (.string wr.onto) ∧ w.cell? ⟨g, i * 4 + 3, none⟩ = some (.slice A wr.b.length c) := by
  have hlt := (List.getElem?_eq_some_iff.1 hi).1
  obtain ⟨g, cap, rfl, _, _, _⟩ := Kd.R_form h (by omega)
  obtain ⟨ad, cs, e, hcl, hK, hcell⟩ := Kd.C_get (Kd.R_reads' h).2.2 wr (i : Int) (by omega) (by omega)
  injection e with e
  subst e
  have hx : l.getD (i : Int).toNat wr = wr := by rw [Int.toNat_natCast, List.getD_eq_getElem?_getD, hi]; rfl
  rw [hx] at hK
  obtain ⟨c0, c1, rfl, h0, c2, c3, rfl, h1, c4, c5, rfl, h2, A, c, rfl, hlc, hC⟩ := hK
  change c0 = [.int .i64 wr.kind] at h0
  change c2 = [.string wr.frm] at h1
  change c4 = [.string wr.onto] at h2
  subst h0 h1 h2
  have hz : ∀ j u, ([Value.int .i64 wr.kind] ++ ([.string wr.frm] ++ ([.string wr.onto] ++ [.slice A (numsL wr.b).length c])))[j]? = some u → w.cell? ⟨g, i * 4 + j, none⟩ = some u := fun j u hj => by
    have := hcell j u hj
    rw [add_plain, Int.toNat_natCast] at this
    exact this
  rw [nums_len] at hlc hz
  exact ⟨g, cap, A, c, rfl, hC, hlc, hz 0 _ rfl, hz 1 _ rfl, hz 2 _ rfl, hz 3 _ rfl⟩
set_option maxRecDepth 100000 in
set_option maxHeartbeats 8000000 in
theorem Crash_calls (w : World) (F : Nat → Prop) (p bn bs : Nat) (vl : Value) (st : DSt) (keep torn : Int) (h : DskAt w F p bn bs vl st) (hok : st.Ok) :
    Calls Try.prog 22 #[.pointer (some ⟨p, 0, none⟩), .int .i64 keep, .int .i64 torn] w fun e w' => ∃ bn' bs', e = .returned (.tuple #[]) ∧ DskAt w' (fun k => F k ∨ w.heap.size ≤ k) p bn' bs' (.slice none 0 0) (crashS st keep torn) ∧ Chg F w w' := by
  obtain ⟨A0, n0, c0, rfl, hn0, hnc0⟩ : ∃ A n c, vl = .slice A n c ∧ n = st.loose.length ∧ n ≤ c := by obtain ⟨A, c, e, hl, _⟩ := Kd.R_reads h.loose; exact ⟨A, _, c, e, rfl, hl⟩
  subst hn0
  obtain ⟨kn, hkn⟩ : ∃ k, k = keepN st keep := ⟨_, rfl⟩
  obtain ⟨m1, hm1⟩ : ∃ m, mx keep 0 = m := ⟨_, rfl⟩
  have hm2 : mn m1 (st.loose.length : Int) = (kn : Int) := by rw [← hm1, hkn, keep_mn]
  have hkl : kn ≤ st.loose.length := by rw [hkn]; unfold keepN; split <;> (try split) <;> omega
  have HKN := Aside0.mk hkn
  clear hkn
  have hz1 := (blk_cell h.cell 1).trans rfl
  have hz2 := (blk_cell h.cell 2).trans rfl
  obtain ⟨i0, hi, _, _, _⟩ := info_parts infoWr
  have hcut := cut_to (P := Try.prog) 55 61 .i64 Try.underlying55 hi A0 st.loose.length c0 (kn : Int) (by omega) (by omega) hnc0
  rw [Int.toNat_natCast] at hcut
  have HCP := Aside0.mk (copied_calls w F bs st.sure h.sure hok.nm (by have := hok.ns; omega) (by have := hok.sz; omega))
  have HD := Aside0.mk h
  have HOK := Aside0.mk hok
  have hnl := hok.nl
  unfold maxN at hnl
  clear h hok
  go_enter Try.func22, Try.ntmps22
  go_wp2_with fail
  refine HCP.out.mono ?_
  rintro e w1 ⟨b6, rfl, hle6, hF1, hb1⟩
  have hD1 := HD.out.below hb1
  have hz12 : w1.cell? ⟨p, 2, none⟩ = some (.slice A0 st.loose.length c0) := (blk_cell hD1.cell 2).trans rfl
  have HF1 := Aside0.mk hF1
  have HB1 := Aside0.mk hb1
  have HD1 := Aside0.mk hD1
  clear hF1 hb1 hD1 hz1 hz2
  go_wp2
  go_loopw [32] (fun v32 wr => ∃ i : Nat, v32 = .int .i64 i ∧ i ≤ kn ∧ Aside0 (FilesAt wr (fun k => w.heap.size ≤ k) b6 ((st.loose.take i).foldl doW st.sure) ∧ Below w.heap.size w wr)) (fun v32 _ => kn - (intOf v32).toNat)
  case atStart => exact ⟨0, rfl, Nat.zero_le _, ⟨HF1.out, HB1.out⟩⟩
  case round =>
    obtain ⟨i, rfl, hik, HR⟩ := hrel
    have HDr := Aside0.mk (HD.out.below HR.out.2)
    clear hz12
    by_cases hlt : i < kn
    · have hil : i < st.loose.length := by omega
      obtain ⟨g, cap, A, c, hvl, hC, hlc, h0, h1, h2, h3⟩ := loose_at HDr.out.loose i st.loose[i] (List.getElem?_eq_getElem hil)
      injection hvl with hA _ hc
      subst hA hc
      have HC := Aside0.mk hC
      obtain ⟨wi, hwi⟩ : ∃ x, x = st.loose[i] := ⟨_, rfl⟩
      rw [← hwi] at HC hlc h0 h1 h2 h3
      have HWI := Aside0.mk hwi
      clear hC hwi
      have HDO := Aside0.mk (do_calls (wr.alloc (.cells #[.int .i64 wi.kind, .string wi.frm, .string wi.onto, .slice A wi.b.length c] 61)) _ b6 _ wi A c (HR.out.1.below (below_alloc (Below.refl _ _) _)) (Kd.C_alloc HC.out _) (HWI.out.symm ▸ HOK.out.nw _ (List.getElem_mem hil)) (by have h1 := len_fold (st.loose.take i) st.sure; have h2 := HOK.out.ns; rw [List.length_take] at h1; unfold maxN at *; omega) (by have h1 := used_fold (st.loose.take i) st.sure; have h2 := looseB_at st.loose i wi (by rw [List.getElem?_eq_getElem hil, HWI.out]); have h3 := HOK.out.sz; omega))
      have HNX := Aside0.mk (show doW ((st.loose.take i).foldl doW st.sure) wi = (st.loose.take (i + 1)).foldl doW st.sure from by rw [List.take_succ_eq_append_getElem hil, List.foldl_append, HWI.out]; rfl)
      have hzr : (wr.alloc (.cells #[.int .i64 wi.kind, .string wi.frm, .string wi.onto, .slice A wi.b.length c] 61)).heap.size = wr.heap.size + 1 := Array.size_push ..
      have HZR := Aside0.mk hzr
      clear hzr hcut
      go_wp2_with fail
      refine HDO.out.mono ?_
      rintro e w3 ⟨rfl, hF3, hc3⟩
      rw [HNX.out] at hF3
      have HF3 := Aside0.mk (hF3.mono (G := fun k => w.heap.size ≤ k) (fun k hk => hk.elim id (fun h => by have h2 := HZR.out; have h3 := HR.out.2.size; omega)))
      have HB3 := Aside0.mk ((below_alloc HR.out.2 _ |> fun hh => hh).trans (hc3.to_below (B := w.heap.size) (fun k hk => by rw [hk]; exact hle6) (by have h2 := HZR.out; have h3 := HR.out.2.size; omega)))
      clear hF3 hc3
      go_wp2
      go_roundw
      case rel => exact ⟨i + 1, by go_num, hlt, ⟨HF3.out, HB3.out⟩⟩
      case measure => simp [intOf]; omega
    · obtain rfl : i = kn := by omega
      have HF := Aside0.mk HR.out.1
      have HB := Aside0.mk HR.out.2
      have hz2r := (blk_cell HDr.out.cell 2).trans rfl
      clear HR hcut hlt
      by_cases hlt : i < st.loose.length
      · obtain ⟨g, cap, A, c, hvl, hC, hlc, h0, h1, h2, h3⟩ := loose_at HDr.out.loose i st.loose[i] (List.getElem?_eq_getElem hlt)
        injection hvl with hA _ hc
        subst hA hc
        have HC := Aside0.mk hC
        obtain ⟨wi, hwi⟩ : ∃ x, x = st.loose[i] := ⟨_, rfl⟩
        rw [← hwi] at HC hlc h0 h1 h2 h3
        have HWI := Aside0.mk (show st.loose[keepN st keep]? = some wi from by rw [← HKN.out, hwi]; exact List.getElem?_eq_getElem hlt)
        have HNW := Aside0.mk (show wi.frm.size ≤ 32 ∧ wi.onto.size ≤ 32 from hwi.symm ▸ HOK.out.nw _ (List.getElem_mem hlt))
        clear hC hwi
        have hdk : decide ((i : Int) < (st.loose.length : Int)) = true := decide_eq_true (by omega)
        by_cases hk0 : wi.kind = 0
        · have hkb : (wi.kind == 0) = true := by simpa using hk0
          by_cases ht : 0 ≤ torn
          · have htb : decide (0 ≤ torn) = true := decide_eq_true ht
            obtain ⟨tn, rfl⟩ := Int.eq_ofNat_of_zero_le ht
            have HCF := Aside0.mk (show doW ((st.loose.take i).foldl doW st.sure) { wi with b := wi.b.take tn } = crashF st keep (tn : Int) from by unfold crashF; rw [HWI.out]; simp only; rw [if_pos ⟨hk0, ht⟩, Int.toNat_natCast, ← HKN.out])
            obtain ⟨tl, htl⟩ : ∃ m : Nat, mn (tn : Int) (wi.b.length : Int) = (m : Int) ∧ m = (wi.b.take tn).length := ⟨_, by unfold mn; rw [List.length_take]; split <;> omega, rfl⟩
            have htl1 := htl.1
            have htl2 : tl ≤ wi.b.length := by rw [htl.2, List.length_take]; omega
            have HTL := Aside0.mk htl.2
            obtain ⟨iu, hiu, _, _, _⟩ := info_parts infoU8
            have hcut := cut_to (P := Try.prog) 22 5 .i64 Try.underlying22 hiu A wi.b.length c (tl : Int) (by omega) (by omega) hlc
            rw [Int.toNat_natCast] at hcut
            have HK0 := Aside0.mk hk0
            clear htl hk0 ht hiu
            have HTT := Aside0.mk (show wi.b.take tl = wi.b.take tn from by rw [HTL.out, List.length_take]; exact (by by_cases hh : tn ≤ wi.b.length; (rw [Nat.min_eq_left hh]); (rw [Nat.min_eq_right (by omega), List.take_length, List.take_of_length_le (by omega)])))
            have hDO := do_calls (wr.alloc (.cells #[.int .i64 wi.kind, .string wi.frm, .string wi.onto, .slice A tl c] 61)) _ b6 _ { wi with b := wi.b.take tn } A c (HF.out.below (below_alloc (Below.refl _ _) _)) (Kd.C_alloc (HTT.out ▸ C_front HC.out tl htl2) _) HNW.out (by have h1 := len_fold (st.loose.take i) st.sure; have h2 := HOK.out.ns; rw [List.length_take] at h1; unfold maxN at *; omega) (by have h1 := used_fold (st.loose.take i) st.sure; have h2 := looseB_at st.loose i wi (by rw [HKN.out]; exact HWI.out); have h3 := HOK.out.sz; have h4 : (wi.b.take tn).length ≤ wi.b.length := (by rw [List.length_take]; omega); show _ + (wi.b.take tn).length ≤ _; omega)
            have HDO := Aside0.mk (hDO : Calls _ _ #[_, .agg #[.int .i64 wi.kind, .string wi.frm, .string wi.onto, .slice A (wi.b.take tn).length c]] _ _)
            clear hDO
            rw [← HTL.out, HCF.out] at HDO
            have hzr : (wr.alloc (.cells #[.int .i64 wi.kind, .string wi.frm, .string wi.onto, .slice A tl c] 61)).heap.size = wr.heap.size + 1 := Array.size_push ..
            have HZR := Aside0.mk hzr
            clear hzr
            go_wp2_with fail
            refine HDO.out.mono ?_
            rintro e w3 ⟨rfl, hF3, hc3⟩
            have HF3 := Aside0.mk (hF3.mono (G := fun k => w.heap.size ≤ k) (fun k hk => hk.elim id (fun h => by have h2 := HZR.out; have h3 := HB.out.size; omega)))
            have HB3 := Aside0.mk ((below_alloc HB.out _).trans (hc3.to_below (B := w.heap.size) (fun k hk => by rw [hk]; exact hle6) (by have h2 := HZR.out; have h3 := HB.out.size; omega)))
            clear hF3 hc3 hcut htl1
            have hCP := copied_calls w3 _ b6 (crashF st keep (tn : Int)) (HF3.out) (crashF_nm HOK.out keep (tn : Int)) (by have h1 := crashF_len st keep (tn : Int); have h2 := HOK.out.ns; unfold maxN at *; omega) (by have h1 := crashF_used st keep (tn : Int); have h2 := HOK.out.sz; omega)
            have HCQ := Aside0.mk hCP
            clear hCP
            go_wp2_with fail
            refine HCQ.out.mono ?_
            rintro e w7 ⟨b7, rfl, hle7, hF7, hb7⟩
            have hsB := HB3.out.size
            have hB7 := HB3.out.trans (hb7.mono hsB)
            have hp7 := (HD.out.below hB7).cell
            have hpl := blk_lt HD.out.cell
            have hpl7 := blk_lt hp7
            have hf70 := blk_frozen hp7 0
            have hf71 := blk_frozen hp7 1
            have hf72 := blk_frozen hp7 2
            have hf74 := blk_frozen hp7 4
            have hf75 := blk_frozen hp7 5
            have hz70 := (blk_cell hp7 0).trans rfl
            have hz71 := (blk_cell hp7 1).trans rfl
            have hz72 := (blk_cell hp7 2).trans rfl
            have hz74 := (blk_cell hp7 4).trans rfl
            have hz75 := (blk_cell hp7 5).trans rfl
            have H6 := Aside0.mk ((HF3.out : FilesAt w3 (fun k => w.heap.size ≤ k) b6 (crashF st keep (tn : Int))).below hb7)
            have H7 := Aside0.mk hF7
            have HB7 := Aside0.mk hB7
            have HP7 := Aside0.mk hp7
            have hb6l : b6 < w3.heap.size := FilesAt.lt HF3.out
            clear hF7 hb7 hB7 hp7
            go_wp2
            refine bodyPost_end (results_none rfl _ _ _) rfl ?_
            have hput := blk_put (blk_put (blk_put (blk_put (blk_put (cs := #[.map (some bn), .map (some bs), _, .int .i64 st.room, .int .i64 st.fuse, .bool st.down]) HP7.out 0 (.map (some b6)) rfl) 1 (.map (some b7)) rfl) 2 (.slice none 0 0) rfl) 5 (.bool false) rfl) 4 (.int .i64 (-1)) rfl
            have hchg := ((((Chg.set w7 p 0 (.map (some b6))).then_ (Chg.set _ p 1 (.map (some b7))) (fun k hk => .inl hk)).then_ (Chg.set _ p 2 (.slice none 0 0)) (fun k hk => .inl hk)).then_ (Chg.set _ p 5 (.bool false)) (fun k hk => .inl hk)).then_ (Chg.set _ p 4 (.int .i64 (-1))) (fun k hk => .inl hk)
            refine ⟨b6, b7, rfl, ⟨hput, ?_, ?_, by omega, Kd.R_nil _ _ _ _ _, .inl HD.out.fp⟩, ?_⟩
            · exact (H6.out.chgT hchg (Apart.cells HP7.out (by decide)) (fun e => H6.out.ne HP7.out e)).mono (fun k hk => .inr hk)
            · exact (H7.out.chgT hchg (Apart.cells HP7.out (by decide)) (fun e => H7.out.ne HP7.out e)).mono (fun k hk => .inr (by omega))
            · exact (Chg.of_below HB7.out F).then_ hchg (fun k hk => .inl (by rw [hk]; exact HD.out.fp))
          · have htb : decide (0 ≤ torn) = false := decide_eq_false ht
            have HCF := Aside0.mk (show (st.loose.take i).foldl doW st.sure = crashF st keep torn from by unfold crashF; rw [HWI.out]; simp only; rw [if_neg (fun h => ht h.2), ← HKN.out])
            clear hk0 ht
            have hCP := copied_calls wr _ b6 (crashF st keep torn) (HCF.out ▸ HF.out) (crashF_nm HOK.out keep torn) (by have h1 := crashF_len st keep torn; have h2 := HOK.out.ns; unfold maxN at *; omega) (by have h1 := crashF_used st keep torn; have h2 := HOK.out.sz; omega)
            have HCQ := Aside0.mk hCP
            clear hCP
            go_wp2_with fail
            refine HCQ.out.mono ?_
            rintro e w7 ⟨b7, rfl, hle7, hF7, hb7⟩
            have hsB := HB.out.size
            have hB7 := HB.out.trans (hb7.mono hsB)
            have hp7 := (HD.out.below hB7).cell
            have hpl := blk_lt HD.out.cell
            have hpl7 := blk_lt hp7
            have hf70 := blk_frozen hp7 0
            have hf71 := blk_frozen hp7 1
            have hf72 := blk_frozen hp7 2
            have hf74 := blk_frozen hp7 4
            have hf75 := blk_frozen hp7 5
            have hz70 := (blk_cell hp7 0).trans rfl
            have hz71 := (blk_cell hp7 1).trans rfl
            have hz72 := (blk_cell hp7 2).trans rfl
            have hz74 := (blk_cell hp7 4).trans rfl
            have hz75 := (blk_cell hp7 5).trans rfl
            have H6 := Aside0.mk ((HCF.out ▸ HF.out : FilesAt wr (fun k => w.heap.size ≤ k) b6 (crashF st keep torn)).below hb7)
            have H7 := Aside0.mk hF7
            have HB7 := Aside0.mk hB7
            have HP7 := Aside0.mk hp7
            have hb6l : b6 < wr.heap.size := FilesAt.lt HF.out
            clear hF7 hb7 hB7 hp7
            go_wp2
            refine bodyPost_end (results_none rfl _ _ _) rfl ?_
            have hput := blk_put (blk_put (blk_put (blk_put (blk_put (cs := #[.map (some bn), .map (some bs), _, .int .i64 st.room, .int .i64 st.fuse, .bool st.down]) HP7.out 0 (.map (some b6)) rfl) 1 (.map (some b7)) rfl) 2 (.slice none 0 0) rfl) 5 (.bool false) rfl) 4 (.int .i64 (-1)) rfl
            have hchg := ((((Chg.set w7 p 0 (.map (some b6))).then_ (Chg.set _ p 1 (.map (some b7))) (fun k hk => .inl hk)).then_ (Chg.set _ p 2 (.slice none 0 0)) (fun k hk => .inl hk)).then_ (Chg.set _ p 5 (.bool false)) (fun k hk => .inl hk)).then_ (Chg.set _ p 4 (.int .i64 (-1))) (fun k hk => .inl hk)
            refine ⟨b6, b7, rfl, ⟨hput, ?_, ?_, by omega, Kd.R_nil _ _ _ _ _, .inl HD.out.fp⟩, ?_⟩
            · exact (H6.out.chgT hchg (Apart.cells HP7.out (by decide)) (fun e => H6.out.ne HP7.out e)).mono (fun k hk => .inr hk)
            · exact (H7.out.chgT hchg (Apart.cells HP7.out (by decide)) (fun e => H7.out.ne HP7.out e)).mono (fun k hk => .inr (by omega))
            · exact (Chg.of_below HB7.out F).then_ hchg (fun k hk => .inl (by rw [hk]; exact HD.out.fp))
        · have hkb : (wi.kind == 0) = false := by simpa using hk0
          have HCF := Aside0.mk (show (st.loose.take i).foldl doW st.sure = crashF st keep torn from by unfold crashF; rw [HWI.out]; simp only; rw [if_neg (fun h => hk0 h.1), ← HKN.out])
          clear hk0
          have hCP := copied_calls wr _ b6 (crashF st keep torn) (HCF.out ▸ HF.out) (crashF_nm HOK.out keep torn) (by have h1 := crashF_len st keep torn; have h2 := HOK.out.ns; unfold maxN at *; omega) (by have h1 := crashF_used st keep torn; have h2 := HOK.out.sz; omega)
          have HCQ := Aside0.mk hCP
          clear hCP
          go_wp2_with fail
          refine HCQ.out.mono ?_
          rintro e w7 ⟨b7, rfl, hle7, hF7, hb7⟩
          have hsB := HB.out.size
          have hB7 := HB.out.trans (hb7.mono hsB)
          have hp7 := (HD.out.below hB7).cell
          have hpl := blk_lt HD.out.cell
          have hpl7 := blk_lt hp7
          have hf70 := blk_frozen hp7 0
          have hf71 := blk_frozen hp7 1
          have hf72 := blk_frozen hp7 2
          have hf74 := blk_frozen hp7 4
          have hf75 := blk_frozen hp7 5
          have hz70 := (blk_cell hp7 0).trans rfl
          have hz71 := (blk_cell hp7 1).trans rfl
          have hz72 := (blk_cell hp7 2).trans rfl
          have hz74 := (blk_cell hp7 4).trans rfl
          have hz75 := (blk_cell hp7 5).trans rfl
          have H6 := Aside0.mk ((HCF.out ▸ HF.out : FilesAt wr (fun k => w.heap.size ≤ k) b6 (crashF st keep torn)).below hb7)
          have H7 := Aside0.mk hF7
          have HB7 := Aside0.mk hB7
          have HP7 := Aside0.mk hp7
          have hb6l : b6 < wr.heap.size := FilesAt.lt HF.out
          clear hF7 hb7 hB7 hp7
          go_wp2
          refine bodyPost_end (results_none rfl _ _ _) rfl ?_
          have hput := blk_put (blk_put (blk_put (blk_put (blk_put (cs := #[.map (some bn), .map (some bs), _, .int .i64 st.room, .int .i64 st.fuse, .bool st.down]) HP7.out 0 (.map (some b6)) rfl) 1 (.map (some b7)) rfl) 2 (.slice none 0 0) rfl) 5 (.bool false) rfl) 4 (.int .i64 (-1)) rfl
          have hchg := ((((Chg.set w7 p 0 (.map (some b6))).then_ (Chg.set _ p 1 (.map (some b7))) (fun k hk => .inl hk)).then_ (Chg.set _ p 2 (.slice none 0 0)) (fun k hk => .inl hk)).then_ (Chg.set _ p 5 (.bool false)) (fun k hk => .inl hk)).then_ (Chg.set _ p 4 (.int .i64 (-1))) (fun k hk => .inl hk)
          refine ⟨b6, b7, rfl, ⟨hput, ?_, ?_, by omega, Kd.R_nil _ _ _ _ _, .inl HD.out.fp⟩, ?_⟩
          · exact (H6.out.chgT hchg (Apart.cells HP7.out (by decide)) (fun e => H6.out.ne HP7.out e)).mono (fun k hk => .inr hk)
          · exact (H7.out.chgT hchg (Apart.cells HP7.out (by decide)) (fun e => H7.out.ne HP7.out e)).mono (fun k hk => .inr (by omega))
          · exact (Chg.of_below HB7.out F).then_ hchg (fun k hk => .inl (by rw [hk]; exact HD.out.fp))
      · have hdk : decide ((i : Int) < (st.loose.length : Int)) = false := decide_eq_false (by omega)
        have HCF := Aside0.mk (show (st.loose.take i).foldl doW st.sure = crashF st keep torn from by unfold crashF; rw [← HKN.out, List.getElem?_eq_none (by omega)])
        have hCP := copied_calls wr _ b6 (crashF st keep torn) (HCF.out ▸ HF.out) (crashF_nm HOK.out keep torn) (by have h1 := crashF_len st keep torn; have h2 := HOK.out.ns; unfold maxN at *; omega) (by have h1 := crashF_used st keep torn; have h2 := HOK.out.sz; omega)
        have HCQ := Aside0.mk hCP
        clear hCP
        go_wp2_with fail
        refine HCQ.out.mono ?_
        rintro e w7 ⟨b7, rfl, hle7, hF7, hb7⟩
        have hsB := HB.out.size
        have hB7 := HB.out.trans (hb7.mono hsB)
        have hp7 := (HD.out.below hB7).cell
        have hpl := blk_lt HD.out.cell
        have hpl7 := blk_lt hp7
        have hf70 := blk_frozen hp7 0
        have hf71 := blk_frozen hp7 1
        have hf72 := blk_frozen hp7 2
        have hf74 := blk_frozen hp7 4
        have hf75 := blk_frozen hp7 5
        have hz70 := (blk_cell hp7 0).trans rfl
        have hz71 := (blk_cell hp7 1).trans rfl
        have hz72 := (blk_cell hp7 2).trans rfl
        have hz74 := (blk_cell hp7 4).trans rfl
        have hz75 := (blk_cell hp7 5).trans rfl
        have H6 := Aside0.mk ((HCF.out ▸ HF.out : FilesAt wr (fun k => w.heap.size ≤ k) b6 (crashF st keep torn)).below hb7)
        have H7 := Aside0.mk hF7
        have HB7 := Aside0.mk hB7
        have HP7 := Aside0.mk hp7
        have hb6l : b6 < wr.heap.size := FilesAt.lt HF.out
        clear hF7 hb7 hB7 hp7
        go_wp2
        refine bodyPost_end (results_none rfl _ _ _) rfl ?_
        have hput := blk_put (blk_put (blk_put (blk_put (blk_put (cs := #[.map (some bn), .map (some bs), _, .int .i64 st.room, .int .i64 st.fuse, .bool st.down]) HP7.out 0 (.map (some b6)) rfl) 1 (.map (some b7)) rfl) 2 (.slice none 0 0) rfl) 5 (.bool false) rfl) 4 (.int .i64 (-1)) rfl
        have hchg := ((((Chg.set w7 p 0 (.map (some b6))).then_ (Chg.set _ p 1 (.map (some b7))) (fun k hk => .inl hk)).then_ (Chg.set _ p 2 (.slice none 0 0)) (fun k hk => .inl hk)).then_ (Chg.set _ p 5 (.bool false)) (fun k hk => .inl hk)).then_ (Chg.set _ p 4 (.int .i64 (-1))) (fun k hk => .inl hk)
        refine ⟨b6, b7, rfl, ⟨hput, ?_, ?_, by omega, Kd.R_nil _ _ _ _ _, .inl HD.out.fp⟩, ?_⟩
        · exact (H6.out.chgT hchg (Apart.cells HP7.out (by decide)) (fun e => H6.out.ne HP7.out e)).mono (fun k hk => .inr hk)
        · exact (H7.out.chgT hchg (Apart.cells HP7.out (by decide)) (fun e => H7.out.ne HP7.out e)).mono (fun k hk => .inr (by omega))
        · exact (Chg.of_below HB7.out F).then_ hchg (fun k hk => .inl (by rw [hk]; exact HD.out.fp))
end Go.Proofs.Ytipclnniaenciaa.Hand
