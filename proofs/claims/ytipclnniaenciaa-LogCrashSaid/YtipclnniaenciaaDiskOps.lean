/- The disk's small functions over memory: burn, there, Used, copied, New, Fuse, Room. -/
import Derived.Test.YtipclnniaenciaaDiskDo
namespace Go.Proofs.Ytipclnniaenciaa.Hand
open Go.RowKit Go.Maps Go.Proofs.YtipclnniaenciaaW.PrintWords Go.Proofs.YtipclnniaenciaaW.PrintLast Go.Proofs.YtipclnniaenciaaW.PrintMore
set_option linter.unusedVariables false
set_option linter.unusedSimpArgs false
def vlen : Value → Nat
  | .slice _ n _ => n
  | _ => 0
def sumV : List (ByteArray × Value) → Nat
  | [] => 0
  | p :: T => vlen p.2 + sumV T
theorem sumV_perm {T U : List (ByteArray × Value)} (h : T.Perm U) : sumV T = sumV U := by
  induction h with
  | nil => rfl
  | cons x _ ih => simp only [sumV, ih]
  | swap x y l => simp only [sumV]; omega
  | trans _ _ h1 h2 => rw [h1, h2]
theorem sumV_en {w : World} {F : Nat → Prop} (L : List En) (h : ∀ x ∈ L, RB w 0 F x.2.1 x.2.2) : sumV (L.map (fun x => (x.1, x.2.1))) = used (L.map (fun x => (x.1, x.2.2))) := by
  induction L with
  | nil => rfl
  | cons x L ih =>
    obtain ⟨A, c, e, _, _⟩ := RB_slice (h x List.mem_cons_self)
    have := ih (fun y hy => h y (List.mem_cons_of_mem _ hy))
    simp only [List.map_cons, sumV, used, e, vlen, this]
set_option maxHeartbeats 8000000 in
theorem Used_calls (w : World) (F : Nat → Prop) (p bn bs : Nat) (vl : Value) (st : DSt) (h : DskAt w F p bn bs vl st) (hok : st.Ok) :
    Calls Try.prog 21 #[.pointer (some ⟨p, 0, none⟩)] w fun e w' => e = .returned (.int .i64 (used st.now)) ∧ Below w.heap.size w w' := by
  obtain ⟨L, hM, hP, hR, hFb⟩ := h.now
  have hlt := hM.lt
  have hz := (blk_cell h.cell 0).trans rfl
  obtain ⟨w1, hrun, hr1, hg1, hs1⟩ := hM.range
  have hsum : sumV (L.map (fun x => (x.1, x.2.1))) = used st.now := by rw [sumV_en L hR, used_perm hP]
  have hlen : ∀ s v, (s, v) ∈ L.map (fun x => (x.1, x.2.1)) → ∃ A n c, v = .slice A n c := fun s v hm => by
    obtain ⟨x, hx, e⟩ := List.mem_map.1 hm
    obtain ⟨A, c, e2, _, _⟩ := RB_slice (hR x hx)
    injection e with _ e3
    exact ⟨A, _, c, by rw [← e3, e2]⟩
  have hu := hok.usedLe
  unfold maxB at hu
  have HL := Aside0.mk hlen
  have HI := Aside0.mk (⟨hr1, (Below.refl w.heap.size w).grown hg1 (Nat.le_refl _) (fun k hk => by cases hk), hsum⟩ : RangeAt w1 bn w.heap.size (L.map (fun x => (x.1, x.2.1))) (L.map (fun x => (x.1, x.2.1))) ∧ Below w.heap.size w w1 ∧ sumV (L.map (fun x => (x.1, x.2.1))) = used st.now)
  clear hM hP hR hFb hr1 hg1 hs1 hsum hlen h hok
  go_enter Try.func21, Try.ntmps21
  go_wp2
  go_loopg [3] ((L.map (fun x => (x.1, x.2.1))).length) (fun kq v3 wr => ∃ (acc : Nat) (T : List (ByteArray × Value)), v3 = .int .i64 acc ∧ acc ≤ used st.now ∧ Aside0 (RangeAt wr bn w.heap.size (L.map (fun x => (x.1, x.2.1))) T ∧ Below w.heap.size w wr ∧ acc + sumV T = used st.now ∧ T.length = kq))
  case atStart => exact ⟨0, _, rfl, Nat.zero_le _, ⟨HI.out.1, HI.out.2.1, by rw [Nat.zero_add]; exact HI.out.2.2, rfl⟩⟩
  case round =>
    clear HI hrun
    obtain ⟨acc, T, rfl, hle, HR⟩ := hrel
    rcases HR.out.1.next 0 with ⟨hT, hn⟩ | ⟨s, v, w2, T', hmem, hp, hn, hr2, hg2, hs2, hen⟩
    · have HE := Aside0.mk (show acc = used st.now by have := HR.out.2.2.1; rw [hT] at this; exact this)
      clear hT
      go_wp2
      go_ret
      exact ⟨by rw [HE.out]; rfl, HR.out.2.1⟩
    · obtain ⟨A, n, c, rfl⟩ := HL.out s v hmem
      have hsv := sumV_perm hp
      have hlp := hp.length_eq
      rw [sumV] at hsv
      simp only [vlen] at hsv
      rw [List.length_cons] at hlp
      have hacc := HR.out.2.2.1
      have hk := HR.out.2.2.2
      have h1 : acc + n ≤ used st.now := by omega
      have HH := Aside0.mk (⟨by omega, by omega⟩ : acc + n + sumV T' = used st.now ∧ T'.length + 1 = gk)
      have HB2 := Aside0.mk (HR.out.2.1.grown hg2 HR.out.2.1.size (fun k hk => by injection hk with hk; omega))
      have HR2 := Aside0.mk hr2
      clear hsv hlp hacc hk hp hmem hg2 hs2 hr2
      go_wp2
      go_roundg T'.length
      case measure => have := HH.out.2; omega
      case rel => exact ⟨acc + n, T', by go_num, h1, ⟨HR2.out, HB2.out, HH.out.1, rfl⟩⟩
theorem Chg.set (w : World) (g i : Nat) (u : Value) : Chg (fun k => k = g) w (w.setCell ⟨g, i, none⟩ u) := (Chg.refl (fun k => k = g) w).setCell (p := ⟨g, i, none⟩) (.inl rfl) u
theorem ret_bool {a b : Bool} (h : a = b) : Ending.returned (.bool a) = .returned (.bool b) := by rw [h]
theorem ret_int {k : IntKind} {a b : Int} (h : a = b) : Ending.returned (.int k a) = .returned (.int k b) := by rw [h]
set_option maxHeartbeats 8000000 in
theorem there_calls (w : World) (F : Nat → Prop) (p bn bs : Nat) (vl : Value) (st : DSt) (s : ByteArray) (h : DskAt w F p bn bs vl st) (hs : s.size ≤ maxLen) :
    Calls Try.prog 25 #[.pointer (some ⟨p, 0, none⟩), .string s] w fun e w' => e = .returned (.bool (look s st.now).isSome) ∧ w' = w := by
  obtain ⟨v, hlk, _⟩ := h.now.at_ s hs
  have hk := (hlk w (fun _ _ _ => rfl)).2
  have hz := (blk_cell h.cell 0).trans rfl
  clear hlk h
  go_enter Try.func25, Try.ntmps25
  go_wp2
  go_ret
  exact ⟨rfl, rfl⟩
/-- The disk's cells, other ones: the rest stays. -/
theorem DskAt.cells {w w' : World} {F : Nat → Prop} {p bn bs : Nat} {vl : Value} {st : DSt} (h : DskAt w F p bn bs vl st) (fuse room : Int) (down : Bool)
    (hc : w'.heap[p]? = some (.cells #[.map (some bn), .map (some bs), vl, .int .i64 room, .int .i64 fuse, .bool down] 57 (0, 0))) (hk : Chg (fun k => k = p) w w') : DskAt w' F p bn bs vl { st with fuse := fuse, room := room, down := down } := by
  refine ⟨hc, h.now.other h.cell (by decide) hk, h.sure.other h.cell (by decide) hk, h.ne, ?_, h.fp⟩
  exact Kd.R_mono (Kd.R_step (Kd.R_types h.loose h.cell (by decide)) (fun k hk2 hlt => hk.block k hlt hk2.2)) (fun k hk2 => hk2.1)
theorem burnS_eq (st : DSt) : burnS st = { st with fuse := (burnS st).fuse, room := st.room, down := (burnS st).down } := by
  unfold burnS
  split
  · rfl
  · split
    · rfl
    · split <;> rfl
set_option maxHeartbeats 8000000 in
theorem burn_calls (w : World) (F : Nat → Prop) (p bn bs : Nat) (vl : Value) (st : DSt) (h : DskAt w F p bn bs vl st) (hok : st.Ok) :
    Calls Try.prog 28 #[.pointer (some ⟨p, 0, none⟩)] w fun e w' => e = .returned (.bool (burnB st)) ∧ DskAt w' F p bn bs vl (burnS st) ∧ Chg (fun k => k = p) w w' ∧ w'.heap.size = w.heap.size := by
  have H := Aside0.mk h
  have hz4 := (blk_cell h.cell 4).trans rfl
  have hz5 := (blk_cell h.cell 5).trans rfl
  have hf4 := blk_frozen h.cell 4
  have hf5 := blk_frozen h.cell 5
  have hfu := hok.fuse
  have hlo := hok.low
  clear h hok
  cases hd : st.down with
  | true =>
    rw [hd] at hz5
    have e1 : burnB st = false := by unfold burnB; rw [hd]; rfl
    have e2 : burnS st = st := by unfold burnS; rw [if_pos hd]
    have E1 := Aside0.mk e1
    have E2 := Aside0.mk e2
    clear hd e1 e2
    go_enter Try.func28, Try.ntmps28
    go_wp2
    go_ret
    exact ⟨ret_bool E1.out.symm, E2.out.symm ▸ H.out, Chg.refl _ _, rfl⟩
  | false =>
    rw [hd] at hz5
    obtain ⟨f, hf⟩ : ∃ f, f = st.fuse := ⟨_, rfl⟩
    rw [← hf] at hz4 hfu hlo
    by_cases h0 : f = 0
    · have e1 : burnB st = false := by unfold burnB; rw [hd, ← hf, h0]; rfl
      have e2 : burnS st = { st with fuse := f, room := st.room, down := true } := by unfold burnS; rw [if_neg (by rw [hd]; simp), if_pos (by rw [← hf]; exact h0), hf]
      have hb := (blk_set H.out.cell 5 (.bool true))
      have HD := H.out.cells f st.room true (by rw [hb, ← hf]; rfl) (Chg.set _ _ _ _)
      rw [← e2] at HD
      have E1 := Aside0.mk e1
      have HD' := Aside0.mk HD
      subst h0
      clear hd e1 e2 hf hb HD
      go_enter Try.func28, Try.ntmps28
      go_wp2
      go_ret
      exact ⟨ret_bool E1.out.symm, HD'.out, Chg.set _ _ _ _, by simp [World.setCell]⟩
    · have e1 : burnB st = true := by unfold burnB; rw [hd, ← hf]; simp [h0]
      have E1 := Aside0.mk e1
      have hne : (f == 0) = false := by simpa using h0
      by_cases h1 : 0 < f
      · have e2 : burnS st = { st with fuse := f - 1, room := st.room, down := false } := by unfold burnS; rw [if_neg (by rw [hd]; simp), if_neg (by rw [← hf]; exact h0), if_pos (by rw [← hf]; exact h1), hf, hd]
        have hb := (blk_set H.out.cell 4 (.int .i64 (f - 1)))
        have HD := H.out.cells (f - 1) st.room false (by rw [hb, hd]; rfl) (Chg.set _ _ _ _)
        rw [← e2] at HD
        have HD' := Aside0.mk HD
        have hp : decide (0 < f) = true := decide_eq_true h1
        clear hd e1 e2 hf hb HD h0
        go_enter Try.func28, Try.ntmps28
        go_wp2
        go_ret
        exact ⟨ret_bool E1.out.symm, HD'.out, Chg.set _ _ _ _, by simp [World.setCell]⟩
      · have e2 : burnS st = st := by unfold burnS; rw [if_neg (by rw [hd]; simp), if_neg (by rw [← hf]; exact h0), if_neg (by rw [← hf]; exact h1)]
        have E2 := Aside0.mk e2
        have hp : decide (0 < f) = false := decide_eq_false h1
        clear hd e1 e2 hf h0
        go_enter Try.func28, Try.ntmps28
        go_wp2
        go_ret
        exact ⟨ret_bool E1.out.symm, E2.out.symm ▸ H.out, Chg.refl _ _, rfl⟩
theorem Chg.grownBy {w w' : World} {b : Nat} (h : Chg (fun k => k = b) w w') : w.grownBy w' (some b) := ⟨h.os, h.tape, h.output, h.size, fun i hi hn => h.block i hi (fun e => hn (by rw [e]))⟩
def toF (fs : Fs) (T : List (ByteArray × Value)) : Fs := T.map (fun x => (x.1, bytesAt x.1 fs))
theorem bytesAt_mem {fs : Fs} (hn : (fs.map (·.1)).Nodup) {s : ByteArray} {x : By} (h : (s, x) ∈ fs) : bytesAt s fs = x := by
  unfold bytesAt
  rw [mem_look hn h]
  rfl
theorem toF_en {fs : Fs} (hn : (fs.map (·.1)).Nodup) {L : List En} (hp : (L.map (fun x => (x.1, x.2.2))).Perm fs) : (toF fs (L.map (fun x => (x.1, x.2.1)))).Perm fs := by
  have e : toF fs (L.map (fun x => (x.1, x.2.1))) = L.map (fun x => (x.1, x.2.2)) := by
    unfold toF
    rw [List.map_map]
    refine List.map_congr_left fun x hx => ?_
    have := bytesAt_mem hn (hp.mem_iff.1 (List.mem_map.2 ⟨x, hx, rfl⟩))
    show (x.1, bytesAt x.1 fs) = _
    rw [this]
  rw [e]
  exact hp
theorem put_new {α : Type} {D : List (ByteArray × α)} {s : ByteArray} {x : α} (h : ∀ p ∈ D, p.1 ≠ s) : put s x D = (s, x) :: D := by
  unfold put del
  rw [List.filter_eq_self.2 (fun p hp => by simpa using h p hp)]
set_option maxHeartbeats 8000000 in
theorem copied_calls (W : World) (F : Nat → Prop) (b : Nat) (fs : Fs) (h : FilesAt W F b fs) (hnm : ∀ x ∈ fs, x.1.size ≤ 32) (hl : fs.length ≤ 4 * maxN) (hsz : used fs ≤ 4 * maxB) :
    Calls Try.prog 29 #[.map (some b)] W fun e w' => ∃ b', e = .returned (.map (some b')) ∧ W.heap.size ≤ b' ∧ FilesAt w' (fun k => W.heap.size ≤ k) b' fs ∧ Below W.heap.size W w' := by
  have hn := h.nodup
  obtain ⟨L, hM, hP, hR, hFb⟩ := h
  unfold maxN at hl
  unfold maxB at hsz
  have hlt := hM.lt
  have hb1 := below_alloc (Below.refl W.heap.size W) (.map #[] 0)
  obtain ⟨w1, hrun, hr1, hg1, hs1⟩ := (hM.move (hb1.block b hlt)).range
  have hz1 : (W.alloc (.map #[] 0)).heap.size = W.heap.size + 1 := Array.size_push ..
  have hB1 := hb1.trans (((Below.refl (W.alloc (.map #[] 0)).heap.size _).grown hg1 (Nat.le_refl _) (fun k hk => by cases hk)).mono (by omega))
  have hF1 : FilesAt w1 (fun k => W.heap.size ≤ k ∧ k ≠ W.heap.size + 1) W.heap.size [] := (FilesAt.made W _ ⟨Nat.le_refl _, by omega⟩).below ((Below.refl (W.alloc (.map #[] 0)).heap.size _).grown hg1 (Nat.le_refl _) (fun k hk => by cases hk))
  rw [hz1] at hr1 hrun
  have HI := Aside0.mk (⟨hr1, hB1, hF1, by rw [List.nil_append]; exact toF_en hn hP⟩ : RangeAt w1 b (W.heap.size + 1) (L.map (fun x => (x.1, x.2.1))) (L.map (fun x => (x.1, x.2.1))) ∧ Below W.heap.size W w1 ∧ FilesAt w1 (fun k => W.heap.size ≤ k ∧ k ≠ W.heap.size + 1) W.heap.size [] ∧ ([] ++ toF fs (L.map (fun x : En => (x.1, x.2.1)))).Perm fs)
  have HL := Aside0.mk (show ∀ s v, (s, v) ∈ L.map (fun x : En => (x.1, x.2.1)) → RB W 0 F v (bytesAt s fs) ∧ s.size ≤ maxLen ∧ (bytesAt s fs).length ≤ used fs from fun s v hm => by
    obtain ⟨x, hx, e⟩ := List.mem_map.1 hm
    have h1 := hR x hx
    have h2 := hP.mem_iff.1 (List.mem_map.2 ⟨x, hx, rfl⟩)
    have h3 := bytesAt_mem hn h2
    injection e with e1 e2
    rw [e1] at h3
    have h4 := hnm _ h2
    rw [e1] at h4
    have h5 := used_look s fs
    rw [h3, ← e2]
    exact ⟨h1, by unfold maxLen; omega, by rw [h3] at h5; omega⟩)
  have HN := Aside0.mk hn
  have hmm := @run_makeMap Try.prog
  clear hM hP hR hFb hb1 hr1 hg1 hs1 hz1 hB1 hF1 hnm hn
  go_enter Try.func29, Try.ntmps29
  go_wp2
  go_loopg [] ((L.map (fun x => (x.1, x.2.1))).length) (fun kq wr => ∃ (D : Fs) (T : List (ByteArray × Value)), Aside0 (RangeAt wr b (W.heap.size + 1) (L.map (fun x => (x.1, x.2.1))) T ∧ Below W.heap.size W wr ∧ FilesAt wr (fun k => W.heap.size ≤ k ∧ k ≠ W.heap.size + 1) W.heap.size D ∧ (D ++ toF fs T).Perm fs ∧ T.length = kq))
  case atStart => exact ⟨[], _, ⟨HI.out.1, HI.out.2.1, HI.out.2.2.1, HI.out.2.2.2, rfl⟩⟩
  case round =>
    clear HI hrun
    obtain ⟨D, T, HR⟩ := hrel
    rcases HR.out.1.next 0 with ⟨hT, hx⟩ | ⟨s, v, w2, T', hmem, hp, hx, hr2, hg2, hs2, hen⟩
    · have HE := Aside0.mk (show D.Perm fs by have := HR.out.2.2.2.1; rw [hT] at this; simpa [toF] using this)
      clear hT
      go_wp2
      go_ret
      exact ⟨_, rfl, Nat.le_refl _, (HR.out.2.2.1.perm HE.out).mono (fun k hk => hk.1), HR.out.2.1⟩
    · have hv := HL.out s v hmem
      have hrlt := HR.out.1.lt
      have hD2 : FilesAt w2 (fun k => W.heap.size ≤ k ∧ k ≠ W.heap.size + 1) W.heap.size D := HR.out.2.2.1.step (fun k hk hlt2 => hg2.block k hlt2 (fun e => hk.2 (by injection e)))
      have hB2 := HR.out.2.1.grown hg2 HR.out.2.1.size (fun k hk => by injection hk with hk; omega)
      have hTp : (toF fs T).Perm ((s, bytesAt s fs) :: toF fs T') := hp.map _
      have hPp : (D ++ (s, bytesAt s fs) :: toF fs T').Perm fs := (hTp.append_left D).symm.trans HR.out.2.2.2.1
      have hfree : ∀ q ∈ D, q.1 ≠ s := fun q hq e => by
        have hnd := (hPp.map (·.1)).nodup_iff.2 HN.out
        rw [List.map_append, List.nodup_append] at hnd
        exact hnd.2.2 q.1 (List.mem_map.2 ⟨q, hq, rfl⟩) s (by simp) e
      have hlD : D.length ≤ fs.length := by have := hPp.length_eq; rw [List.length_append] at this; omega
      obtain ⟨A, c, rfl, hlc, hC⟩ := RB_slice hv.1
      have HCL := Aside0.mk (clone_calls w2 A (bytesAt s fs).length c (bytesAt s fs) (Kd.C_below hC hB2) rfl (by omega))
      have HH := Aside0.mk (⟨by rw [put_new hfree]; exact List.perm_middle.symm.trans hPp, by have := hp.length_eq; rw [List.length_cons] at this; have := HR.out.2.2.2.2; omega⟩ : (put s (bytesAt s fs) D ++ toF fs T').Perm fs ∧ T'.length + 1 = gk)
      have HB2 := Aside0.mk hB2
      have HR2 := Aside0.mk hr2
      have HD2 := Aside0.mk hD2
      have hsm := hv.2.1
      have hrlt2 : W.heap.size + 1 < w2.heap.size := by omega
      have hby := HR.out.1.owns.lt
      have hby2 : b < w2.heap.size := by omega
      clear hr2 hg2 hs2 hp hmem hD2 hB2 hTp hPp hfree hC hv HR
      go_wp2_with (go_at_call 27; refine HCL.out.mono ?_; rintro e w3 ⟨v3, rfl, hR3, hb3⟩; obtain ⟨w4, hst, hF4, hc4, hs4⟩ := FilesAt.store (HD2.out.below hb3) hsm (by unfold maxLen; omega) (Kd.R_mono (Kd.R_lower hR3 (Nat.zero_le _)) (fun k hk => ⟨by omega, by omega⟩)); have HB3 := Aside0.mk hb3; have HF4 := Aside0.mk hF4; have HC4 := Aside0.mk hc4; clear hR3 hb3 hF4 hc4 hs4)
      go_roundg T'.length
      case measure => have := HH.out.2; omega
      case rel =>
        refine ⟨_, T', ⟨(HR2.out.kept (grown_of_below HB3.out none) (by simp) (by simp)).kept HC4.out.grownBy (fun e => ?_) (fun e => ?_), ?_, HF4.out, HH.out.1, rfl⟩⟩
        · injection e with e
          omega
        · injection e with e
          omega
        · exact (HB2.out.trans (HB3.out.mono (by omega))).trans (HC4.out.to_below (B := W.heap.size) (fun k hk => by omega) (by have := HB3.out.size; omega))
attribute [local go_sem] max2_int min2_int max_two min_two
def newS (n : Int) : DSt := ⟨[], [], if n < 0 then 0 else n, -1, false⟩
set_option maxHeartbeats 8000000 in
theorem New_calls (w : World) (n : Int) :
    Calls Try.prog 9 #[.int .i64 n] w fun e w' => ∃ p, e = .returned (.pointer (some ⟨p, 0, none⟩)) ∧ w.heap.size ≤ p ∧ Dsk w' (fun k => w.heap.size ≤ k) p (newS n) ∧ Below w.heap.size w w' := by
  have hmm := @run_makeMap Try.prog
  have hfin : ∀ r : Int, (if n < 0 then 0 else n) = r → (Dsk (((w.alloc (.map #[] 0)).alloc (.map #[] 0)).alloc (.cells #[.map (some w.heap.size), .map (some (w.heap.size + 1)), .slice none 0 0, .int .i64 r, .int .i64 (-1), .bool false] 57)) (fun k => w.heap.size ≤ k) (w.heap.size + 2) (newS n)) := fun r hr => by
    have h1 : (w.alloc (.map #[] 0)).heap.size = w.heap.size + 1 := Array.size_push ..
    have h2 : ((w.alloc (.map #[] 0)).alloc (.map #[] 0)).heap.size = w.heap.size + 2 := (Array.size_push ..).trans (by rw [h1])
    have m1 := FilesAt.made w (fun k => w.heap.size ≤ k) (Nat.le_refl _)
    have m2 := FilesAt.made (w.alloc (.map #[] 0)) (fun k => w.heap.size ≤ k) (by omega)
    rw [h1] at m2
    have hb := blk_new ((w.alloc (.map #[] 0)).alloc (.map #[] 0)) (.cells #[.map (some w.heap.size), .map (some (w.heap.size + 1)), .slice none 0 0, .int .i64 r, .int .i64 (-1), .bool false] 57)
    rw [h2] at hb
    refine ⟨w.heap.size, w.heap.size + 1, .slice none 0 0, by unfold newS; rw [hr]; exact hb, ?_, ?_, by omega, Kd.R_nil _ _ _ _ _, by omega⟩
    · exact (m1.below (below_alloc (Below.refl _ _) _)).below (below_alloc (Below.refl _ _) _)
    · exact m2.below (below_alloc (Below.refl _ _) _)
  have hbw : ∀ o : Obj, Below w.heap.size w (((w.alloc (.map #[] 0)).alloc (.map #[] 0)).alloc o) := fun o => below_alloc (below_alloc (below_alloc (Below.refl _ _) _) _) _
  by_cases hn : n < 0
  · have HF := Aside0.mk (hfin 0 (if_pos hn))
    have HW := Aside0.mk hbw
    clear hfin hbw
    go_enter Try.func9, Try.ntmps9
    go_wp2
    go_ret
    exact ⟨_, rfl, by omega, HF.out, HW.out _⟩
  · have HF := Aside0.mk (hfin n (if_neg hn))
    have HW := Aside0.mk hbw
    clear hfin hbw
    go_enter Try.func9, Try.ntmps9
    go_wp2
    go_ret
    exact ⟨_, rfl, by omega, HF.out, HW.out _⟩
set_option maxHeartbeats 8000000 in
theorem Fuse_calls (w : World) (F : Nat → Prop) (p bn bs : Nat) (vl : Value) (st : DSt) (n : Int) (h : DskAt w F p bn bs vl st) :
    Calls Try.prog 23 #[.pointer (some ⟨p, 0, none⟩), .int .i64 n] w fun e w' => e = .returned (.tuple #[]) ∧ DskAt w' F p bn bs vl (fuseS st n) ∧ Chg (fun k => k = p) w w' := by
  have hf4 := blk_frozen h.cell 4
  have hz4 := (blk_cell h.cell 4).trans rfl
  have hfin : ∀ r : Int, (if n < 0 then 0 else n) = r → DskAt (w.setCell ⟨p, 4, none⟩ (.int .i64 r)) F p bn bs vl (fuseS st n) := fun r hr => by
    have hb := blk_set h.cell 4 (.int .i64 r)
    have HD := h.cells r st.room st.down (by rw [hb]; rfl) (Chg.set _ _ _ _)
    unfold fuseS
    rw [hr]
    exact HD
  by_cases hn : n < 0
  · have HF := Aside0.mk (hfin 0 (if_pos hn))
    clear hfin h
    go_enter Try.func23, Try.ntmps23
    go_wp2
    refine bodyPost_end (results_none rfl _ _ _) rfl ?_
    exact ⟨rfl, HF.out, Chg.set _ _ _ _⟩
  · have HF := Aside0.mk (hfin n (if_neg hn))
    clear hfin h
    go_enter Try.func23, Try.ntmps23
    go_wp2
    refine bodyPost_end (results_none rfl _ _ _) rfl ?_
    exact ⟨rfl, HF.out, Chg.set _ _ _ _⟩
/-! ## Rows of other types stand -/
def Apart (w : World) (S : Nat → Prop) (E : List Nat) : Prop := ∀ k, S k → k < w.heap.size → ∀ cs q, w.heap[k]? = some (.cells cs q (0, 0)) → ¬ q ∈ E
theorem Apart.cells {w : World} {g t : Nat} {cs : Array Value} {fz : Nat × Nat} {E : List Nat} (h : w.heap[g]? = some (.cells cs t fz)) (ht : ¬ t ∈ E) : Apart w (fun k => k = g) E := by
  rintro k rfl hlt cs' q hq
  rw [h] at hq
  injection hq with hq
  injection hq with _ hq
  rw [← hq]
  exact ht
theorem Apart.map {w : World} {g cl : Nat} {es : Array MapEntry} {E : List Nat} (h : w.heap[g]? = some (.map es cl)) : Apart w (fun k => k = g) E := by
  rintro k rfl hlt cs' q hq
  rw [h] at hq
  cases hq
theorem Apart.row {α : Type} {d : Kd α} {e base : Nat} {ok : Nat → Prop} {w : World} {v : Value} {xs : List α} {E : List Nat} (h : d.R e w base ok v xs) (he : ¬ e ∈ E) : Apart w (fun k => v.ownBlock = some k) E := by
  intro k hk hlt cs' q hq
  obtain ⟨inner, ho⟩ := Kd.R_own h
  obtain ⟨cells, hc⟩ := own_typed ho k hk
  rw [hc] at hq
  injection hq with hq
  injection hq with _ hq
  rw [← hq]
  exact he
theorem R_chgT {α : Type} {d : Kd α} {e base : Nat} {ok S : Nat → Prop} {w w' : World} {v : Value} {xs : List α} (h : d.R e w base ok v xs) (hk : Chg S w w') (hS : Apart w S (e :: d.E)) : d.R e w' base ok v xs :=
  Kd.R_mono (Kd.R_move (Kd.R_bound h) (fun k hk2 => by
    obtain ⟨_, _, hlt, q, hq, cs, hc⟩ := hk2
    exact hk.block k hlt (fun hs => hS k hs hlt cs q hc hq))) (fun k hk2 => hk2.1)
theorem FilesAt.chgT {w w' : World} {F S : Nat → Prop} {b : Nat} {fs : Fs} (h : FilesAt w F b fs) (hk : Chg S w w') (hS : Apart w S [5]) (hb : ¬ S b) : FilesAt w' F b fs := by
  obtain ⟨L, h1, h2, h3, h4⟩ := h
  exact ⟨L, h1.move (hk.block b h1.lt hb), h2, fun x hx => R_chgT (h3 x hx) hk hS, h4⟩
theorem R_apart {α β : Type} {d : Kd α} {d2 : Kd β} {e e2 base base2 : Nat} {ok ok2 : Nat → Prop} {w : World} {v v2 : Value} {xs : List α} {ys : List β} (h : d.R e w base ok v xs) (h2 : d2.R e2 w base2 ok2 v2 ys) (he : ¬ e2 ∈ e :: d.E) : d.R e w base (fun k => ok k ∧ some k ≠ v2.ownBlock) v xs :=
  Kd.R_mono (Kd.R_bound h) (fun k hk => ⟨hk.1, fun heq => by
    obtain ⟨_, _, hlt, q, hq, cs, hc⟩ := hk
    exact Apart.row h2 he k heq.symm hlt cs q hc hq⟩)
end Go.Proofs.Ytipclnniaenciaa.Hand
