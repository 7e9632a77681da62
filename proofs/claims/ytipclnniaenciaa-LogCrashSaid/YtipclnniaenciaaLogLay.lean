/- lay: the log's file is written anew, over memory. -/
import Derived.Test.YtipclnniaenciaaLogMem
namespace Go.Proofs.Ytipclnniaenciaa.Hand
open Go.RowKit Go.Maps Go.Proofs.YtipclnniaenciaaW.PrintWords Go.Proofs.YtipclnniaenciaaW.PrintLast Go.Proofs.YtipclnniaenciaaW.PrintMore
set_option linter.unusedVariables false
set_option linter.unusedSimpArgs false
/-- On the way from w0: the disk is in blocks of A, which are A0's and new ones; nothing else has turned. -/
def Sp (w0 : World) (A0 : Nat → Prop) (p : Nat) (w : World) (A : Nat → Prop) (st : DSt) : Prop := Dsk w A p st ∧ Grew A0 A w0 w ∧ Chg A0 w0 w
section
variable {w0 w w' : World} {A0 A A' S : Nat → Prop} {p : Nat} {st st' : DSt} {r : Int}
theorem Sp.of (h : Dsk w A p st) : Sp w A p w (fun k => A k ∧ k < w.heap.size) st := ⟨h.tight, fun k hk => ⟨.inl hk.1, hk.2⟩, Chg.refl _ _⟩
theorem Sp.size (h : Sp w0 A0 p w A st) : w0.heap.size ≤ w.heap.size := h.2.2.size
theorem Sp.below (h : Sp w0 A0 p w A st) (hb : Below w.heap.size w w') : Sp w0 A0 p w' A st := ⟨h.1.below hb, fun k hk => ⟨(h.2.1 k hk).1, Nat.lt_of_lt_of_le (h.2.1 k hk).2 hb.size⟩, h.2.2.below hb⟩
theorem Sp.next (h : Sp w0 A0 p w A st) (hD : Dsk w' (fun k => A k ∨ w.heap.size ≤ k) p st') (hc : Chg A w w') : ∃ A', Sp w0 A0 p w' A' st' := by
  obtain ⟨A', h1, h2⟩ := hD.grew
  exact ⟨A', h1, h.2.1.trans h2 h.2.2.size, h.2.2.then_ hc (fun k hk => (h.2.1 k hk).1)⟩
theorem Sp.blk (h : Sp w0 A0 p w A st) {g : Nat} {o : Obj} (hb : w0.heap[g]? = some o) (hg : ¬ A0 g) : w.heap[g]? = some o := h.2.2.blk hb hg
theorem Sp.app (h : Sp w0 A0 p w A st) (hok : st.Ok) (s : ByteArray) (hs : s.size ≤ maxLen) (Ab : Option Addr) (c : Nat) (b : By) (hC : CB w Ab b) (hb : b.length ≤ maxB) :
    Calls Try.prog 10 #[.pointer (some ⟨p, 0, none⟩), .string s, .slice Ab b.length c] w fun e w' => e = .returned (.int .i64 (appendR st s b.length)) ∧ ∃ A', Sp w0 A0 p w' A' (appendS st s b) :=
  (h.1.app hok s hs Ab c b hC hb).mono fun e w' ⟨h1, h2, h3⟩ => ⟨h1, h.next h2 h3⟩
theorem Sp.syn (h : Sp w0 A0 p w A st) (hok : st.Ok) :
    Calls Try.prog 11 #[.pointer (some ⟨p, 0, none⟩)] w fun e w' => e = .returned (.int .i64 (doneR st)) ∧ ∃ A', Sp w0 A0 p w' A' (syncS st) :=
  (h.1.syn hok).mono fun e w' ⟨h1, h2, h3⟩ => ⟨h1, h.next h2 h3⟩
theorem Sp.ren (h : Sp w0 A0 p w A st) (hok : st.Ok) (s t : ByteArray) (hs : s.size ≤ maxLen) (ht : t.size ≤ maxLen) :
    Calls Try.prog 40 #[.pointer (some ⟨p, 0, none⟩), .string s, .string t] w fun e w' => e = .returned (.int .i64 (renameR st s t)) ∧ ∃ A', Sp w0 A0 p w' A' (renameS st s t) :=
  (h.1.ren hok s t hs ht).mono fun e w' ⟨h1, h2, h3⟩ => ⟨h1, h.next h2 h3⟩
theorem Sp.rem (h : Sp w0 A0 p w A st) (hok : st.Ok) (s : ByteArray) (hs : s.size ≤ maxLen) :
    Calls Try.prog 31 #[.pointer (some ⟨p, 0, none⟩), .string s] w fun e w' => e = .returned (.int .i64 (removeR st s)) ∧ ∃ A', Sp w0 A0 p w' A' (removeS st s) :=
  (h.1.rem hok s hs).mono fun e w' ⟨h1, h2, h3⟩ => ⟨h1, h.next h2 h3⟩
end
theorem concat_dot (s : ByteArray) : s ++ (⟨#[46, 110, 101, 119]⟩ : ByteArray) = newN s := rfl
theorem newN_size (s : ByteArray) : (newN s).size = s.size + 4 := by
  unfold newN
  rw [ByteArray.size_append]
  rfl
theorem frs_take (rs : List By) (i : Nat) (hi : i < rs.length) : frs (rs.take (i + 1)) = frs (rs.take i) ++ frB rs[i] := by
  rw [List.take_succ_eq_append_getElem hi, frs_app]
  show _ ++ (frB rs[i] ++ []) = _
  rw [List.append_nil]
theorem frs_take_le (rs : List By) (i : Nat) : (frs (rs.take i)).length ≤ (frs rs).length := by
  conv => rhs; rw [← List.take_append_drop i rs, frs_app, List.length_append]
  omega
theorem rec_le (rs : List By) (i : Nat) (hi : i < rs.length) : rs[i].length ≤ (frs rs).length := by
  have h1 := frs_take rs i hi
  have h2 := frs_take_le rs (i + 1)
  rw [h1, List.length_append, frB_len] at h2
  omega
set_option maxRecDepth 100000 in
set_option maxHeartbeats 16000000 in
theorem lay_calls (w : World) (A B : Nat → Prop) (q p : Nat) (l : LSt) (st : DSt) (AL : Option Addr) (c : Nat) (rs : List By) (hL : Lg w B q p l) (hD : Dsk w A p st) (hoff : Off A B) (hfit : st.Fit (frs rs).length 3) (hC : CR w AL rs) (hrl : rs.length ≤ 100000000) (hsz : (frs rs).length ≤ 1000000000) (hnm : l.name.size ≤ 20) :
    Calls Try.prog 33 #[.pointer (some ⟨q, 0, none⟩), .slice AL rs.length c] w fun e w' => e = .returned (.int .i64 (layR st l.name rs)) ∧ ∃ A', Sp w A p w' A' (layS st l.name rs) := by
  obtain ⟨vr, hq, hnb, hBq⟩ := hL
  have hAq : ¬ A q := fun h => hoff q h hBq
  have HQ := Aside0.mk hq
  have HA := Aside0.mk hAq
  have HC := Aside0.mk hC
  have HF := Aside0.mk hfit
  have HD := Aside0.mk hD
  have hql := blk_lt hq
  have hns2 := newN_size l.name
  have HNS := Aside0.mk hns2
  have hc4 : l.name.size + 4 ≤ 9223372036854775807 := by omega
  have hn4 : (⟨#[46, 110, 101, 119]⟩ : ByteArray).size = 4 := rfl
  have hsum : l.name.size + (⟨#[46, 110, 101, 119]⟩ : ByteArray).size ≤ 9223372036854775807 := by rw [hn4]; exact hc4
  clear hnb hBq hAq hq hC hfit hD hoff hns2 hn4
  go_enter Try.func33, Try.ntmps33
  go_wp2
  go_loopw [5, 14] (fun v5 v14 wr => ∃ i : Nat, v14 = .int .i64 i ∧ i ≤ rs.length ∧ Aside0 (RB wr w.heap.size (fun _ => True) v5 (frs (rs.take i)) ∧ Below w.heap.size w wr)) (fun _ v14 _ => rs.length - (intOf v14).toNat)
  case atStart => exact ⟨0, rfl, Nat.zero_le _, ⟨Kd.R_nil _ _ _ _ _, Below.refl _ _⟩⟩
  case round =>
    obtain ⟨i, rfl, hi, HI⟩ := hrel
    by_cases hlt : i < rs.length
    · obtain ⟨ad, A1, c1, rfl, hc, hlc, hCi⟩ := rec_at (Kd.C_below HC.out HI.out.2) i hlt
      have hle := rec_le rs i hlt
      have HFT := Aside0.mk (frs_take rs i hlt)
      have hta := frs_take_le rs i
      obtain ⟨x, hx⟩ : ∃ x, x = rs[i] := ⟨_, rfl⟩
      rw [← hx] at hc hlc hCi hle HFT
      have HFR := Aside0.mk (frame_calls wr A1 c1 x hCi hlc (by omega))
      obtain ⟨A5, c5, rfl, hl5, _⟩ := RB_slice HI.out.1
      have hxl := frB_len x
      have HXL := Aside0.mk hxl
      clear hx hCi hxl
      go_wp2_with fail
      refine HFR.out.mono ?_
      rintro e w2 ⟨v2, rfl, hR2, hb2⟩
      obtain ⟨A2, c2, rfl, hl2, hC2⟩ := RB_slice hR2
      have HB2 := Aside0.mk hb2
      have HC2 := Aside0.mk hC2
      have HR1 := Aside0.mk (Kd.R_below HI.out.1 hb2)
      have hsz2 : w.heap.size ≤ w2.heap.size := Nat.le_trans HI.out.2.size hb2.size
      have HLX := Aside0.mk (show ((frs (rs.take i)).length + (frB x).length) * 1 ≤ 140737488355328 from by rw [HXL.out]; omega)
      clear hb2 hC2 hR2
      go_wp2_with ((with_reducible refine gate_builtin (b := .append) (xs := #[.tmp 18, .tmp 20]) rfl ?_); at_builtin; refine Kd.R_append_rows (Kd.int .u8) (Rr := (Kd.int .u8).K w2) (w0 := w2) w.heap.size rfl (.tmp 18) (.tmp 20) 22 5 (.int .u8 0) 1 rfl Try.underlying22 infoU8 rfl (by decide) (by omega) _ (numsL (frs (rs.take i))) (numsL (frB x)) A2 (frB x).length c2 (fun _ => True) (fun _ => False) rfl rfl ?aO ?aR ?aK (fun _ hk => hk.elim) ?aF ?aB ?aS ?aL ?_; (case aO => exact HR1.out); (case aR => exact (nums_len (frB x) ▸ HC2.out)); (case aK => exact fun x cs hx => hx); (case aF => exact fun _ _ => trivial); (case aB => exact Below.refl _ _); (case aS => exact hsz2); (case aL => rw [nums_len]; exact HLX.out); intro v3 w3 ho hb3 hg hat; rw [← nums_app, ← HFT.out] at ho; have HO := Aside0.mk ho; have HB3 := Aside0.mk hb3; clear ho hb3 hg hat)
      go_roundw
      case rel => exact ⟨i + 1, by go_num, hlt, ⟨HO.out, (HI.out.2.trans (HB2.out.mono HI.out.2.size)).trans HB3.out⟩⟩
      case measure => simp [intOf]; omega
    · obtain rfl : i = rs.length := by omega
      have hta := List.take_length (l := rs)
      have hO := HI.out.1
      rw [hta] at hO
      obtain ⟨A5, c5, rfl, hl5, hC5⟩ := RB_slice hO
      have HO := Aside0.mk hC5
      have HB := Aside0.mk HI.out.2
      have HS0 := Aside0.mk ((Sp.of HD.out).below HB.out)
      have hq0 : wr.heap[q]? = _ := HB.out.block q hql |>.trans HQ.out
      have hz0 : wr.cell? ⟨q, 0, none⟩ = some (.pointer (some ⟨p, 0, none⟩)) := (blk_cell hq0 0).trans rfl
      have hz1 : wr.cell? ⟨q, 1, none⟩ = some (.string l.name) := (blk_cell hq0 1).trans rfl
      have HT := Aside0.mk (HS0.out.app HF.out.ok (newN l.name) (by rw [HNS.out]; unfold maxLen; omega) A5 c5 (frs rs) HO.out (by unfold maxB; omega))
      have HF1 := Aside0.mk (DSt.Fit.append (s := newN l.name) (b := frs rs) (n := 0) (m := 2) (HF.out.less (by omega) (by omega)))
      clear hta hO hC5 HI hq0
      go_wp2_with fail
      refine HT.out.mono ?_
      rintro e w1 ⟨rfl, A1, hS1⟩
      have HS1 := Aside0.mk hS1
      clear hS1 HT hz0 hz1 HO
      obtain ⟨r1, hr1⟩ : ∃ r, r = appendR st (newN l.name) (frs rs).length := ⟨_, rfl⟩
      rw [← hr1]
      have HR1 := Aside0.mk hr1
      clear hr1
      by_cases h1 : r1 = 0
      · have HZ1 := Aside0.mk h1
        have hb1 : (r1 != 0) = false := by rw [h1]; rfl
        clear h1
        have HT := Aside0.mk (HS1.out.syn HF1.out.ok)
        have HF2 := Aside0.mk HF1.out.sync
        have hq1 : w1.heap[q]? = _ := HS1.out.blk HQ.out HA.out
        have hz10 : w1.cell? ⟨q, 0, none⟩ = some (.pointer (some ⟨p, 0, none⟩)) := (blk_cell hq1 0).trans rfl
        have hz11 : w1.cell? ⟨q, 1, none⟩ = some (.string l.name) := (blk_cell hq1 1).trans rfl
        clear hq1
        go_wp2_with fail
        refine HT.out.mono ?_
        rintro e w2 ⟨rfl, A2, hS2⟩
        clear hz10 hz11
        have HS2 := Aside0.mk hS2
        clear hS2 HT
        obtain ⟨r2, hr2⟩ : ∃ r, r = doneR (appendS st (newN l.name) (frs rs)) := ⟨_, rfl⟩
        rw [← hr2]
        have HR2 := Aside0.mk hr2
        clear hr2
        by_cases h2 : r2 = 0
        · have HZ2 := Aside0.mk h2
          have hb2 : (r2 != 0) = false := by rw [h2]; rfl
          clear h2
          have HF3 := Aside0.mk (DSt.Fit.rename (s := newN l.name) (t := l.name) (n := 0) (m := 1) HF2.out)
          have hq2 : w2.heap[q]? = _ := HS2.out.blk HQ.out HA.out
          have hz20 : w2.cell? ⟨q, 0, none⟩ = some (.pointer (some ⟨p, 0, none⟩)) := (blk_cell hq2 0).trans rfl
          have hz21 : w2.cell? ⟨q, 1, none⟩ = some (.string l.name) := (blk_cell hq2 1).trans rfl
          clear hq2
          have HT := Aside0.mk ((HS2.out.below (below_drew (Below.refl _ _))).ren HF2.out.ok (newN l.name) l.name (by rw [HNS.out]; unfold maxLen; omega) (by unfold maxLen; omega))
          go_wp2
          refine start_ (n := 11) (S := fun w' => w'.cell? ⟨q, 0, none⟩ = some (.pointer (some ⟨p, 0, none⟩)) ∧ w'.cell? ⟨q, 1, none⟩ = some (.string l.name)) (ds := []) #[false, false, false, false, false, false, false, false, false, false, false] (by kernel_rfl) rfl rfl ⟨hz20, hz21⟩ (fun hHeld => ?_)
          refine pure_ (i := 0) (N := some 46) (v := ?_) (a' := ?_) #[true, false, false, false, false, false, false, false, false, false, false] rfl rfl (by kernel_rfl) (fun _ _ _ h => h) (Or.inl ⟨by rfl, ?_⟩) ?_ ?_
          rotate_left
          · intro w'
            go_simp
            with_reducible rfl
          rotate_left
          · simp only [Act.put, List.setIfInBounds_toArray, List.set_cons_zero, List.set_cons_succ, i64_w, i32_w]
            rfl
          refine pure_ (i := 1) (N := some 47) (v := ?_) (a' := ?_) #[true, true, false, false, false, false, false, false, false, false, false] rfl rfl (by kernel_rfl) (fun _ _ _ h => h) (Or.inl ⟨by rfl, ?_⟩) ?_ ?_
          rotate_left
          · intro w'
            go_simp
            with_reducible rfl
          rotate_left
          · simp only [Act.put, List.setIfInBounds_toArray, List.set_cons_zero, List.set_cons_succ, i64_w, i32_w]
            rfl
          refine pure_ (i := 2) (N := some 48) (v := ?_) (a' := ?_) #[true, true, true, false, false, false, false, false, false, false, false] rfl rfl (by kernel_rfl) (fun _ _ _ h => h) (Or.inl ⟨by rfl, ?_⟩) ?_ ?_
          rotate_left
          · intro w'
            go_simp
            with_reducible rfl
          rotate_left
          · simp only [Act.put, List.setIfInBounds_toArray, List.set_cons_zero, List.set_cons_succ, i64_w, i32_w]
            rfl
          refine pure_ (i := 4) (N := some 50) (v := ?_) (a' := ?_) #[true, true, true, false, true, false, false, false, false, false, false] rfl rfl (by kernel_rfl) (fun _ _ _ h => h) (Or.inl ⟨by rfl, ?_⟩) ?_ ?_
          rotate_left
          · intro w'
            go_simp
            with_reducible rfl
          rotate_left
          · simp only [Act.put, List.setIfInBounds_toArray, List.set_cons_zero, List.set_cons_succ, i64_w, i32_w]
            rfl
          refine pure_ (i := 5) (N := some 51) (v := ?_) (a' := ?_) #[true, true, true, false, true, true, false, false, false, false, false] rfl rfl (by kernel_rfl) (fun _ _ _ h => h) (Or.inl ⟨by rfl, ?_⟩) ?_ ?_
          rotate_left
          · intro w'
            go_simp
            with_reducible rfl
          rotate_left
          · simp only [Act.put, List.setIfInBounds_toArray, List.set_cons_zero, List.set_cons_succ, i64_w, i32_w]
            rfl
          refine pure_ (i := 6) (N := some 52) (v := ?_) (a' := ?_) #[true, true, true, false, true, true, true, false, false, false, false] rfl rfl (by kernel_rfl) (fun _ _ _ h => h) (Or.inl ⟨by rfl, ?_⟩) ?_ ?_
          rotate_left
          · intro w'
            go_simp
            with_reducible rfl
          rotate_left
          · simp only [Act.put, List.setIfInBounds_toArray, List.set_cons_zero, List.set_cons_succ, i64_w, i32_w]
            rfl
          refine pure_ (i := 7) (N := some 53) (v := ?_) (a' := ?_) #[true, true, true, false, true, true, true, true, false, false, false] rfl rfl (by kernel_rfl) (fun _ _ _ h => h) (Or.inl ⟨by rfl, ?_⟩) ?_ ?_
          rotate_left
          · intro w'
            go_simp
            with_reducible rfl
          rotate_left
          · simp only [Act.put, List.setIfInBounds_toArray, List.set_cons_zero, List.set_cons_succ, i64_w, i32_w]
            rfl
          refine take_ (i := 3) (N := some 49) (v := ?_) (a' := ?_) #[true, true, true, true, true, true, true, true, false, false, false] rfl rfl (by kernel_rfl) (fun _ _ _ h => h) (Or.inl ⟨by rfl, ?_⟩) hHeld ?_ ?_
          rotate_left
          · rintro w' ⟨s0, s1⟩
            go_simp
            with_reducible rfl
          rotate_left
          · simp only [Act.put, List.setIfInBounds_toArray, List.set_cons_zero, List.set_cons_succ, i64_w, i32_w]
            rfl
          refine take_ (i := 8) (N := some 54) (v := ?_) (a' := ?_) #[true, true, true, true, true, true, true, true, true, false, false] rfl rfl (by kernel_rfl) (fun _ _ _ h => h) (Or.inl ⟨by rfl, ?_⟩) hHeld ?_ ?_
          rotate_left
          · rintro w' ⟨s0, s1⟩
            go_simp
            with_reducible rfl
          rotate_left
          · simp only [Act.put, List.setIfInBounds_toArray, List.set_cons_zero, List.set_cons_succ, i64_w, i32_w]
            rfl
          refine one_ (i := 9) (N := some 55) #[true, true, true, true, true, true, true, true, true, true, false] rfl rfl (by kernel_rfl) (by decide) (fun K hK => ?_)
          refine goes_ Try.func40 (by kernel_rfl) rfl #[.pointer (some ⟨p, 0, none⟩), .string (newN l.name), .string l.name] (by rfl) rfl rfl (by simp only [List.map_toArray, List.map_cons, List.map_nil]; rfl) ?_
          with_reducible refine (HT.out).mono ?_
          rintro e w3 ⟨rfl, A3, hS3⟩
          refine ⟨_, rfl, ?_⟩
          have HS3 := Aside0.mk hS3
          clear hS3
          refine hK.out _ _ ⟨(blk_cell (HS3.out.blk HQ.out HA.out) 0).trans rfl, (blk_cell (HS3.out.blk HQ.out HA.out) 1).trans rfl⟩ (fun hHeld => ?_)
          clear hK K
          refine norm_ (a' := ?_) ?_ ?_
          rotate_left
          · show Act.put _ (some 55) _ = _
            simp only [Act.put, List.setIfInBounds_toArray, List.set_cons_zero, List.set_cons_succ, i64_w, i32_w]
            rfl
          refine pure_ (i := 10) (N := some 11) (v := ?_) (a' := ?_) #[true, true, true, true, true, true, true, true, true, true, true] rfl rfl (by kernel_rfl) (fun _ _ _ h => h) (Or.inl ⟨by rfl, ?_⟩) ?_ ?_
          rotate_left
          · intro w'
            go_simp
            with_reducible rfl
          rotate_left
          · simp only [Act.put, List.setIfInBounds_toArray, List.set_cons_zero, List.set_cons_succ, i64_w, i32_w]
            rfl
          refine done_ (by kernel_rfl) ?_
          clear hz20 hz21 HT
          obtain ⟨r3, hr3⟩ : ∃ r, r = renameR (syncS (appendS st (newN l.name) (frs rs))) (newN l.name) l.name := ⟨_, rfl⟩
          rw [← hr3]
          have HR3 := Aside0.mk hr3
          clear hr3
          by_cases h3 : r3 = 0
          · have HZ3 := Aside0.mk h3
            have hb3 : (r3 != 0) = false := by rw [h3]; rfl
            clear h3
            have HT := Aside0.mk (HS3.out.syn HF3.out.ok)
            have hq3 : w3.heap[q]? = _ := HS3.out.blk HQ.out HA.out
            have hz30 : w3.cell? ⟨q, 0, none⟩ = some (.pointer (some ⟨p, 0, none⟩)) := (blk_cell hq3 0).trans rfl
            have hz31 : w3.cell? ⟨q, 1, none⟩ = some (.string l.name) := (blk_cell hq3 1).trans rfl
            clear hq3
            have HE := Aside0.mk (show layR st l.name rs = doneR (renameS (syncS (appendS st (newN l.name) (frs rs))) (newN l.name) l.name) from by unfold layR; rw [if_neg (by rw [← HR1.out]; exact fun h => h HZ1.out), if_neg (by rw [← HR2.out]; exact fun h => h HZ2.out), if_neg (by rw [← HR3.out]; exact fun h => h HZ3.out)])
            have HG := Aside0.mk (show layS st l.name rs = syncS (renameS (syncS (appendS st (newN l.name) (frs rs))) (newN l.name) l.name) from by unfold layS; rw [if_neg (by rw [← HR1.out]; exact fun h => h HZ1.out), if_neg (by rw [← HR2.out]; exact fun h => h HZ2.out), if_neg (by rw [← HR3.out]; exact fun h => h HZ3.out)])
            go_wp2_with fail
            refine HT.out.mono ?_
            rintro e w4 ⟨rfl, A4, hS4⟩
            have HS4 := Aside0.mk hS4
            clear hS4
            go_wp2
            go_ret
            exact ⟨ret_int HE.out.symm, A4, by rw [HG.out]; exact HS4.out⟩
          · have hb3 : (r3 != 0) = true := by rw [bne_iff_ne]; exact h3
            have HE := Aside0.mk (show layR st l.name rs = r3 from by unfold layR; rw [if_neg (by rw [← HR1.out]; exact fun h => h HZ1.out), if_neg (by rw [← HR2.out]; exact fun h => h HZ2.out), if_pos (by rw [← HR3.out]; exact h3)]; exact HR3.out.symm)
            have HG := Aside0.mk (show layS st l.name rs = renameS (syncS (appendS st (newN l.name) (frs rs))) (newN l.name) l.name from by unfold layS; rw [if_neg (by rw [← HR1.out]; exact fun h => h HZ1.out), if_neg (by rw [← HR2.out]; exact fun h => h HZ2.out), if_pos (by rw [← HR3.out]; exact h3)])
            clear h3
            go_wp2
            go_ret
            exact ⟨ret_int HE.out.symm, A3, by rw [HG.out]; exact HS3.out⟩
        · have hb2 : (r2 != 0) = true := by rw [bne_iff_ne]; exact h2
          have HE := Aside0.mk (show layR st l.name rs = r2 from by unfold layR; rw [if_neg (by rw [← HR1.out]; exact fun h => h HZ1.out), if_pos (by rw [← HR2.out]; exact h2)]; exact HR2.out.symm)
          have HG := Aside0.mk (show layS st l.name rs = syncS (appendS st (newN l.name) (frs rs)) from by unfold layS; rw [if_neg (by rw [← HR1.out]; exact fun h => h HZ1.out), if_pos (by rw [← HR2.out]; exact h2)])
          clear h2
          go_wp2
          go_ret
          exact ⟨ret_int HE.out.symm, A2, by rw [HG.out]; exact HS2.out⟩
      · have hb1 : (r1 != 0) = true := by rw [bne_iff_ne]; exact h1
        have HE := Aside0.mk (show layR st l.name rs = r1 from by unfold layR; rw [if_pos (by rw [← HR1.out]; exact h1)]; exact HR1.out.symm)
        have HG := Aside0.mk (show layS st l.name rs = appendS st (newN l.name) (frs rs) from by unfold layS; rw [if_pos (by rw [← HR1.out]; exact h1)])
        clear h1
        go_wp2
        go_ret
        exact ⟨ret_int HE.out.symm, A1, by rw [HG.out]; exact HS1.out⟩
end Go.Proofs.Ytipclnniaenciaa.Hand
