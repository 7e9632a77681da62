/- A log in memory, and its small functions: told, may. -/
import Derived.Test.YtipclnniaenciaaLogFn
namespace Go.Proofs.Ytipclnniaenciaa.Hand
open Go.RowKit Go.Maps Go.Proofs.YtipclnniaenciaaW.PrintWords Go.Proofs.YtipclnniaenciaaW.PrintLast Go.Proofs.YtipclnniaenciaaW.PrintMore
set_option linter.unusedVariables false
set_option linter.unusedSimpArgs false
/-! ## Sets of blocks that grow -/
def Grew (A A' : Nat → Prop) (w w' : World) : Prop := ∀ k, A' k → (A k ∨ w.heap.size ≤ k) ∧ k < w'.heap.size
def Off (A B : Nat → Prop) : Prop := ∀ k, A k → ¬ B k
section
variable {w w' w2 : World} {A A' A2 B C S : Nat → Prop} {p : Nat} {st : DSt}
theorem Grew.trans (h : Grew A A' w w') (k : Grew A' A2 w' w2) (hs : w.heap.size ≤ w'.heap.size) : Grew A A2 w w2 := fun x hx => ⟨(k x hx).1.elim (fun h2 => (h x h2).1) (fun h2 => .inr (Nat.le_trans hs h2)), (k x hx).2⟩
/-- What lay apart, and was there, lies apart. -/
theorem Grew.off (h : Grew A A' w w') (hC : Off A C) (hl : ∀ k, C k → k < w.heap.size) : Off A' C := fun k hk hc => (h k hk).1.elim (fun h2 => hC k h2 hc) (fun h2 => by have := hl k hc; omega)
theorem Off.symm (h : Off A B) : Off B A := fun k hb ha => h k ha hb
theorem Dsk.tight (h : Dsk w A p st) : Dsk w (fun k => A k ∧ k < w.heap.size) p st := by
  obtain ⟨bn, bs, vl, h⟩ := h
  exact ⟨bn, bs, vl, h.cell, h.now.bound.mono (fun k hk => ⟨hk.1, hk.2.1⟩), h.sure.bound.mono (fun k hk => ⟨hk.1, hk.2.1⟩), h.ne, Kd.R_mono (Kd.R_bound h.loose) (fun k hk => ⟨hk.1, hk.2.2.1⟩), h.fp, blk_lt h.cell⟩
theorem Dsk.grew (h : Dsk w' (fun k => A k ∨ w.heap.size ≤ k) p st) : ∃ A', Dsk w' A' p st ∧ Grew A A' w w' := ⟨_, h.tight, fun k hk => hk⟩
theorem Dsk.same (h : Dsk w A p st) (hb : Below w.heap.size w w') : Dsk w' A p st := h.below hb
end
/-! ## A log -/
def Lg (w : World) (B : Nat → Prop) (q p : Nat) (l : LSt) : Prop :=
  ∃ vr, w.heap[q]? = some (.cells #[.pointer (some ⟨p, 0, none⟩), .string l.name, vr, .bool l.down] 67 (0, 0)) ∧ NB w (fun k => B k ∧ k ≠ q) vr l.recs ∧ B q
section
variable {w w' : World} {B B' S : Nat → Prop} {q p : Nat} {l : LSt}
theorem Lg.lt (h : Lg w B q p l) : q < w.heap.size := by
  obtain ⟨vr, h1, _⟩ := h
  exact blk_lt h1
theorem Lg.step (h : Lg w B q p l) (hm : ∀ k, B k → k < w.heap.size → w'.heap[k]? = w.heap[k]?) : Lg w' B q p l := by
  obtain ⟨vr, h1, h2, h3⟩ := h
  exact ⟨vr, (hm q h3 (blk_lt h1)).trans h1, Kd.N_step h2 (fun k hk hlt => hm k hk.1 hlt), h3⟩
theorem Lg.below (h : Lg w B q p l) (hb : Below w.heap.size w w') : Lg w' B q p l := h.step (fun k _ hk => hb.block k hk)
theorem Lg.chg (h : Lg w B q p l) (hk : Chg S w w') (hd : Off B S) : Lg w' B q p l := h.step (fun k hB hlt => hk.block k hlt (hd k hB))
theorem Lg.mono (h : Lg w B q p l) (hG : ∀ k, B k → B' k) : Lg w B' q p l := by
  obtain ⟨vr, h1, h2, h3⟩ := h
  exact ⟨vr, h1, Kd.N_mono h2 (fun k hk => ⟨hG k hk.1, hk.2⟩), hG q h3⟩
theorem Lg.tight (h : Lg w B q p l) : Lg w (fun k => B k ∧ k < w.heap.size) q p l := by
  obtain ⟨vr, h1, h2, h3⟩ := h
  exact ⟨vr, h1, Kd.N_mono (Kd.N_bound h2) (fun k hk => ⟨⟨hk.1.1, hk.2⟩, hk.1.2⟩), h3, blk_lt h1⟩
theorem Lg.grew (h : Lg w' (fun k => B k ∨ w.heap.size ≤ k) q p l) : ∃ B', Lg w' B' q p l ∧ Grew B B' w w' := ⟨_, h.tight, fun k hk => hk⟩
/-- The log's flag, another one. -/
theorem Lg.flag (h : Lg w B q p l) (d : Bool) : Lg (w.setCell ⟨q, 3, none⟩ (.bool d)) B q p { l with down := d } := by
  obtain ⟨vr, h1, h2, h3⟩ := h
  exact ⟨vr, (blk_set h1 3 (.bool d)).trans rfl, Kd.N_far h2 (p := ⟨q, 3, none⟩) (fun k hk => hk.2) _, h3⟩
end
set_option maxHeartbeats 8000000 in
theorem told_calls (w : World) (B : Nat → Prop) (q p : Nat) (l : LSt) (e : Int) (h : Lg w B q p l) :
    Calls Try.prog 37 #[.pointer (some ⟨q, 0, none⟩), .int .i64 e] w fun r w' => r = .returned (.int .i64 e) ∧ Lg w' B q p (toldS l e) ∧ Chg (fun k => k = q) w w' := by
  obtain ⟨vr, h1, h2, h3⟩ := id h
  have hz3 : w.cell? ⟨q, 3, none⟩ = some (.bool l.down) := (blk_cell h1 3).trans rfl
  have hf3 := blk_frozen h1 3
  have HL := Aside0.mk h
  cases hd : l.down with
  | true =>
    have hS : toldS l e = { l with down := true } := by unfold toldS; rw [hd, Bool.true_or]
    rw [hd] at hz3
    have HS := Aside0.mk hS
    clear h h1 h2 hd hS
    go_enter Try.func37, Try.ntmps37
    go_wp2
    go_ret
    exact ⟨rfl, by rw [HS.out]; exact HL.out.flag true, Chg.set _ _ _ _⟩
  | false =>
    rw [hd] at hz3
    cases he : (e == 6) with
    | true =>
      have hS : toldS l e = { l with down := true } := by unfold toldS; rw [hd, he]; rfl
      have HS := Aside0.mk hS
      clear h h1 h2 hd hS
      go_enter Try.func37, Try.ntmps37
      go_wp2
      go_ret
      exact ⟨rfl, by rw [HS.out]; exact HL.out.flag true, Chg.set _ _ _ _⟩
    | false =>
      have hS : toldS l e = { l with down := false } := by unfold toldS; rw [hd, he]; rfl
      have HS := Aside0.mk hS
      clear h h1 h2 hd hS
      go_enter Try.func37, Try.ntmps37
      go_wp2
      go_ret
      exact ⟨rfl, by rw [HS.out]; exact HL.out.flag false, Chg.set _ _ _ _⟩
set_option maxHeartbeats 8000000 in
theorem big_calls (w : World) (A : Option Addr) (n c : Nat) :
    Calls Try.prog 43 #[.slice A n c] w fun r w' => r = .returned (.bool (decide (262144 < n))) ∧ w' = w := by
  have hd : decide (262144 < (n : Int)) = decide (262144 < n) := by rw [decide_eq_decide]; omega
  go_enter Try.func43, Try.ntmps43
  go_wp2
  go_ret
  exact ⟨ret_bool (by first | rfl | exact hd), rfl⟩
/-- Record i of a row that is read. -/
theorem rec_at {w : World} {A : Option Addr} {rs : List By} (h : CR w A rs) (i : Nat) (hi : i < rs.length) : ∃ ad A1 c1, A = some ad ∧ w.cell? (ad.add i) = some (.slice A1 rs[i].length c1) ∧ rs[i].length ≤ c1 ∧ CB w A1 rs[i] := by
  obtain ⟨ad, A1, c1, e, hc, hl, hC⟩ := PA.at_L1 h (i : Int) (by omega) (by rw [List.length_map]; omega)
  rw [rd_L1_at rs i hi] at hc hl hC
  rw [nums_len] at hc hl
  rw [Int.toNat_natCast] at hc
  exact ⟨ad, A1, c1, e, hc, hl, hC⟩
def SomeIdx (rs : List By) (w : World) (e : Ending) (w' : World) : Prop := ∃ r : Int, e = .returned (.int .i64 r) ∧ decide (0 ≤ r) = bigB rs ∧ w' = w
set_option maxHeartbeats 8000000 in
theorem index_calls (w : World) (A : Option Addr) (c : Nat) (rs : List By) (hC : CR w A rs) (hl : rs.length ≤ 1000000000) :
    Calls Try.prog 46 #[.slice A rs.length c, .func (.func 43) #[] #[]] w (SomeIdx rs w) := by
  have HC := Aside0.mk hC
  clear hC
  go_enter Try.func46, Try.ntmps46
  go_wp2
  go_loop [8] (fun v8 => ∃ i : Nat, v8 = .int .i64 i ∧ i ≤ rs.length ∧ Aside0 (bigB (rs.take i) = false)) (fun v8 => rs.length - (intOf v8).toNat)
  case atStart => exact ⟨0, rfl, Nat.zero_le _, ⟨rfl⟩⟩
  case round =>
    obtain ⟨i, rfl, hi, HB⟩ := hrel
    by_cases hlt : i < rs.length
    · obtain ⟨ad, A1, c1, rfl, hc, hlc, _⟩ := rec_at HC.out i hlt
      obtain ⟨x, hx⟩ : ∃ x, x = rs[i] := ⟨_, rfl⟩
      rw [← hx] at hc hlc
      have HX := Aside0.mk hx
      have HT := Aside0.mk (show rs.take (i + 1) = rs.take i ++ [x] from by rw [List.take_succ_eq_append_getElem hlt, hx])
      clear hx
      by_cases hbig : 262144 < x.length
      · have hb := big_calls w A1 x.length c1
        rw [decide_eq_true hbig] at hb
        have HBC := Aside0.mk hb
        clear hb
        go_wp2_with fail
        refine HBC.out.mono ?_
        rintro e w' ⟨rfl, rfl⟩
        go_wp2
        go_ret
        refine ⟨(i : Int), rfl, ?_, rfl⟩
        rw [decide_eq_true (by omega)]
        unfold bigB
        symm
        rw [List.any_eq_true]
        exact ⟨rs[i], List.getElem_mem hlt, by rw [← HX.out]; exact decide_eq_true hbig⟩
      · have hb := big_calls w A1 x.length c1
        rw [decide_eq_false hbig] at hb
        have HBC := Aside0.mk hb
        have HN := Aside0.mk (show bigB (rs.take (i + 1)) = false from by
          have h1 := HB.out
          unfold bigB at h1 ⊢
          rw [HT.out, List.any_append, h1]
          simp
          omega)
        clear hb
        go_wp2_with fail
        refine HBC.out.mono ?_
        rintro e w' ⟨rfl, rfl⟩
        go_wp2
        go_round
        case rel => exact ⟨i + 1, by go_num, hlt, HN⟩
        case measure => simp [intOf]; omega
    · obtain rfl : i = rs.length := by omega
      go_wp2
      go_ret
      refine ⟨-1, rfl, ?_, rfl⟩
      have h1 := HB.out
      rw [List.take_length] at h1
      rw [h1]
      rfl
set_option maxHeartbeats 8000000 in
theorem contains_calls (w : World) (A : Option Addr) (c : Nat) (rs : List By) (hC : CR w A rs) (hl : rs.length ≤ 1000000000) :
    Calls Try.prog 42 #[.slice A rs.length c, .func (.func 43) #[] #[]] w fun r w' => r = .returned (.bool (bigB rs)) ∧ w' = w := by
  have HI := Aside0.mk (index_calls w A c rs hC hl)
  clear hC
  go_enter Try.func42, Try.ntmps42
  go_wp2_with fail
  refine HI.out.mono ?_
  rintro e w' ⟨r, rfl, hr, rfl⟩
  have HR := Aside0.mk hr
  clear hr
  go_wp2
  go_ret
  exact ⟨ret_bool HR.out, rfl⟩
set_option maxHeartbeats 8000000 in
theorem may_calls (w : World) (B : Nat → Prop) (q p : Nat) (l : LSt) (A : Option Addr) (c : Nat) (rs : List By) (h : Lg w B q p l) (hC : CR w A rs) (hl : rs.length ≤ 1000000000) :
    Calls Try.prog 35 #[.pointer (some ⟨q, 0, none⟩), .slice A rs.length c] w fun r w' => r = .returned (.int .i64 (mayR l rs)) ∧ w' = w := by
  obtain ⟨vr, h1, h2, h3⟩ := h
  have hz3 : w.cell? ⟨q, 3, none⟩ = some (.bool l.down) := (blk_cell h1 3).trans rfl
  have hk := contains_calls w A c rs hC hl
  clear h1 h2 hC
  cases hb : bigB rs with
  | true =>
    rw [hb] at hk
    have HK := Aside0.mk hk
    have HM := Aside0.mk (show mayR l rs = 9 from by unfold mayR; rw [if_pos hb])
    clear hb hk
    go_enter Try.func35, Try.ntmps35
    go_wp2_with fail
    refine HK.out.mono ?_
    rintro e w' ⟨rfl, rfl⟩
    go_wp2
    go_ret
    exact ⟨ret_int HM.out.symm, rfl⟩
  | false =>
    rw [hb] at hk
    have HK := Aside0.mk hk
    cases hd : l.down with
    | true =>
      have HM := Aside0.mk (show mayR l rs = 6 from by unfold mayR; rw [if_neg (by rw [hb]; simp), if_pos hd])
      rw [hd] at hz3
      clear hb hk hd
      go_enter Try.func35, Try.ntmps35
      go_wp2_with fail
      refine HK.out.mono ?_
      rintro e w' ⟨rfl, rfl⟩
      go_wp2
      go_ret
      exact ⟨ret_int HM.out.symm, rfl⟩
    | false =>
      have HM := Aside0.mk (show mayR l rs = 0 from by unfold mayR; rw [if_neg (by rw [hb]; simp), if_neg (by rw [hd]; simp)])
      rw [hd] at hz3
      clear hb hk hd
      go_enter Try.func35, Try.ntmps35
      go_wp2_with fail
      refine HK.out.mono ?_
      rintro e w' ⟨rfl, rfl⟩
      go_wp2
      go_ret
      exact ⟨ret_int HM.out.symm, rfl⟩
end Go.Proofs.Ytipclnniaenciaa.Hand
