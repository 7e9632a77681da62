/- bin.list over memory: so many numbers, so many texts. -/
import Derived.Test.YtljhfaneepehcaaDoorBinReader
import Derived.Test.YtljhfaneepehcaaDoorPBx0
namespace Go.Proofs.YtljhfaneepehcaaDoor.Hand
open Go.RowKit Go.Proofs.YtljhfaneepehcaaDoorW.PrintWords Go.Proofs.YtljhfaneepehcaaDoorW.PrintLast Go.Proofs.YtljhfaneepehcaaDoorW.PrintMore Go.Proofs.YtljhfaneepehcaaDoor.Addr
set_option linter.unusedVariables false
set_option linter.unusedSimpArgs false
def loopS {α : Type} (one : List Int × Bool → α × (List Int × Bool)) : Nat → List Int × Bool → List α × (List Int × Bool)
  | 0, s => ([], s)
  | n + 1, s => if s.2 = true then ([], s) else ((one s).1 :: (loopS one n (one s).2).1, (loopS one n (one s).2).2)
def listS {α : Type} (one : List Int × Bool → α × (List Int × Bool)) (size : Nat) (s : List Int × Bool) : List α × (List Int × Bool) := loopS one (numS size s).1.toNat (numS size s).2
def ListOk {α : Type} (d : Kd α) (e : Nat) (one : List Int × Bool → α × (List Int × Bool)) (w0 W : World) (p size : Nat) (st : List Int × Bool) (en : Ending) (w' : World) : Prop :=
  ∃ v A2 c2, en = .returned v ∧ Kd.R d e w' W.heap.size (fun k => k ≠ p) v (listS one size st).1 ∧ Rd w0 w' p A2 c2 (listS one size st).2 ∧ Kept W w' (fun k => k = p)
theorem Rd.grow {w0 W W' : World} {p B : Nat} {A : Option Addr} {c : Nat} {st : List Int × Bool} (h : Rd w0 W p A c st) (hb : Below B W W') (hp : p < B) : Rd w0 W' p A c st :=
  ⟨h.pos, (hb.block p hp).trans h.cell, h.row, h.cap, h.low.trans (hb.mono (by have := h.pos; omega)), h.oct⟩
theorem kept_grow {w W W' : World} {p : Nat} (h : Kept w W (fun k => k = p)) (hb : Below w.heap.size W W') : Kept w W' (fun k => k = p) :=
  Kept.then_ (S2 := fun k => w.heap.size ≤ k) h ⟨hb.size, fun i hi hn => hb.block i (by omega)⟩ (fun k hk => .inr hk)
set_option maxHeartbeats 16000000 in
theorem list_str_calls (size : Nat) (hn : size ≤ 4) (w0 W : World) (p : Nat) (A : Option Addr) (c : Nat) (st : List Int × Bool) (hR : Rd w0 W p A c st) :
    Calls Tryd.prog 21 #[.pointer (some ⟨p, 0, none⟩), .int .i64 size, .func (.func 20) #[.pointer (some ⟨p, 0, none⟩)] #[]] W (ListOk Kd.string 9 textS w0 W p size st) := by
  have HN := Aside0.mk (rnum_calls size (by omega) w0 W p A c st hR)
  have HNB := Aside0.mk (numS_bound size st hR.oct (by omega))
  have hpW := blk_lt hR.cell
  clear hR
  go_enter Tryd.func21, Tryd.ntmps21
  go_wp2_with fail
  refine HN.out.mono ?_
  rintro e w1 ⟨A1, c1, rfl, hR1, hK1⟩
  have HQE : Aside0 (listS textS size st = loopS textS (numS size st).1.toNat (numS size st).2) := ⟨rfl⟩
  obtain ⟨q, hq⟩ : ∃ q : Nat, (numS size st).1 = (q : Int) := ⟨(numS size st).1.toNat, by have := HNB.out.1; omega⟩
  obtain ⟨s1, hs1⟩ : ∃ s1, s1 = (numS size st).2 := ⟨_, rfl⟩
  rw [hq, ← hs1, Int.toNat_natCast] at HQE
  rw [← hs1] at hR1
  rw [hq]
  have hqb : q < 4294967296 := by
    have h1 := HNB.out.2
    rw [hq] at h1
    have hm : size = 0 ∨ size = 1 ∨ size = 2 ∨ size = 3 ∨ size = 4 := by omega
    have hp : (256 : Int) ^ size ≤ 4294967296 := by rcases hm with h | h | h | h | h <;> rw [h] <;> decide
    omega
  have HR1 := Aside0.mk hR1
  have HK1 := Aside0.mk hK1
  clear hR1 hK1 HN hq hs1 HNB
  go_wp2_with fail
  obtain ⟨⟨l, s2⟩, hl⟩ : ∃ l, l = listS textS size st := ⟨_, rfl⟩
  have HLE := Aside0.mk hl
  clear hl
  go_loopw [7, 8] (fun v7 v8 wr => ∃ (m : Nat) (s3 : List Int × Bool) (A3 : Option Addr) (c3 : Nat) (done : List ByteArray), v8 = .int .i64 m ∧ Aside0 (m + done.length ≤ q) ∧ Aside0 (Rd w0 wr p A3 c3 s3) ∧ Aside0 (Kd.R Kd.string 9 wr W.heap.size (fun k => k ≠ p) v7 done) ∧ Aside0 (Kept W wr (fun k => k = p)) ∧ Aside0 (done ++ (loopS textS m s3).1 = l ∧ (loopS textS m s3).2 = s2)) (fun _ v8 _ => (intOf v8).toNat)
  case atStart => exact ⟨q, s1, A1, c1, [], rfl, ⟨Nat.le_refl _⟩, ⟨HR1.out⟩, ⟨Kd.R_nil _ _ _ _ _⟩, ⟨HK1.out⟩, ⟨by have := HLE.out; rw [HQE.out] at this; rw [← this]; exact ⟨rfl, rfl⟩⟩⟩
  case round =>
    obtain ⟨m, ⟨bs3, bad3⟩, A3, c3, done, rfl, HM, HR3, HO3, HK3, HE3⟩ := hrel
    have hc1 := (blk_cell HR3.out.cell 1).trans rfl
    have hmq := HM.out
    by_cases h0 : m = 0
    · subst h0
      go_wp2
      refine bodyPost_ret (results_tmp rfl _ _ _) rfl ?_
      have h2 := HE3.out
      rw [loopS, List.append_nil] at h2
      obtain ⟨rfl, rfl⟩ := h2
      unfold ListOk
      rw [← HLE.out]
      exact ⟨_, A3, c3, rfl, HO3.out, HR3.out, HK3.out⟩
    · obtain ⟨k, rfl⟩ : ∃ k, m = k + 1 := ⟨m - 1, by omega⟩
      have hgt : decide ((((k + 1 : Nat) : Int)) > 0) = true := decide_eq_true (by omega)
      have hgt' : decide (0 < (((k + 1 : Nat) : Int))) = true := decide_eq_true (by omega)
      cases bad3 with
      | true =>
        go_wp2
        refine bodyPost_ret (results_tmp rfl _ _ _) rfl ?_
        have h2 := HE3.out
        rw [loopS, if_pos (by trivial), List.append_nil] at h2
        obtain ⟨rfl, rfl⟩ := h2
        unfold ListOk
        rw [← HLE.out]
        exact ⟨_, A3, c3, rfl, HO3.out, HR3.out, HK3.out⟩
      | false =>
        have h2 := HE3.out
        rw [loopS, if_neg (show ¬ ((bs3, false).2 = true) from Bool.false_ne_true)] at h2
        obtain ⟨⟨x, s4⟩, hx⟩ : ∃ x, x = textS (bs3, false) := ⟨_, rfl⟩
        rw [← hx] at h2
        have HE4 := Aside0.mk h2
        have HX := Aside0.mk hx
        obtain ⟨Ao, co, rfl⟩ := Kd.R_slice HO3.out
        have HC := Aside0.mk (rtext_calls w0 wr p A3 c3 (bs3, false) HR3.out)
        clear h2 hx HE3
        go_wp2_with fail
        refine HC.out.mono ?_
        rintro e w4 ⟨A4, c4, rfl, hR4, hK4⟩
        rw [← HX.out] at hR4
        rw [← HX.out]
        have HR4 := Aside0.mk hR4
        have HO4 := Aside0.mk (Kd.R_step HO3.out (fun k hk hlt => hK4.2 k hlt hk))
        have HK4 := Aside0.mk (Kept.then_ HK3.out hK4 (fun k hk => .inl hk))
        have hsz4 : W.heap.size ≤ w4.heap.size := HK4.out.1
        clear hR4 hK4
        go_wp2_with (at_builtin; (refine Kd.R_append Kd.string (w0 := w4) W.heap.size rfl (.tmp 23) (.tmp 26) 22 9 (.string ⟨#[]⟩) 16 rfl Tryd.underlying22 PB.info9 rfl (by decide) (by omega) (.slice Ao done.length co) done x [.string x] (fun k => k ≠ p) (fun _ => False) rfl ?aX rfl (fun _ hk => hk.elim) (fun k hk => by omega) ?aO ?aB ?aS ?aL ?_; (case aX => rfl); (case aO => exact HO4.out); (case aB => exact Below.refl _ _); (case aS => exact hsz4); (case aL => omega); intro v5 w5 ho5 hb5 hg5 hat5; obtain ⟨A5, c5, rfl⟩ := Kd.R_slice ho5; rw [List.length_append, List.length_singleton] at ho5 ⊢; have HO5 := Aside0.mk ho5; have HB5 := Aside0.mk hb5; clear ho5 hb5 hg5 hat5))
        go_roundw
        case rel =>
          refine ⟨k, s4, A4, c4, done ++ [x], by go_num, ⟨by rw [List.length_append, List.length_singleton]; omega⟩, ⟨HR4.out.grow HB5.out hpW⟩, ⟨?_⟩, ⟨kept_grow HK4.out HB5.out⟩, ⟨by rw [List.append_assoc]; exact HE4.out⟩⟩
          exact HO5.out
        case measure => simp [intOf]
set_option maxHeartbeats 8000000 in
theorem dnum_calls (w0 W : World) (p : Nat) (A : Option Addr) (c : Nat) (st : List Int × Bool) (gx : Nat) (hR : Rd w0 W p A c st) (hx : W.heap[gx]? = some (.cells #[.pointer (some ⟨p, 0, none⟩)] 47 (0, 0))) :
    Calls Tryd.prog 23 #[.pointer (some ⟨gx, 0, none⟩)] W (NumOk w0 W p 1 st) := by
  have hc := (blk_cell hx 0).trans rfl
  have HN := Aside0.mk (rnum_calls 1 (by omega) w0 W p A c st hR)
  clear hR hx
  go_enter Tryd.func23, Tryd.ntmps23
  go_wp2_with fail
  refine HN.out.mono ?_
  rintro e w1 ⟨A1, c1, rfl, hR1, hK1⟩
  have HR1 := Aside0.mk hR1
  have HK1 := Aside0.mk hK1
  clear hR1 hK1
  go_wp2
  refine bodyPost_ret (results_tmp rfl _ _ _) rfl ?_
  exact ⟨A1, c1, rfl, HR1.out, HK1.out⟩
set_option maxHeartbeats 16000000 in
theorem list_int_calls (size : Nat) (hn : size ≤ 4) (w0 W : World) (p : Nat) (A : Option Addr) (c : Nat) (st : List Int × Bool) (hR : Rd w0 W p A c st) (gx : Nat) (hgx : gx ≠ p) (hx : W.heap[gx]? = some (.cells #[.pointer (some ⟨p, 0, none⟩)] 47 (0, 0))) :
    Calls Tryd.prog 22 #[.pointer (some ⟨p, 0, none⟩), .int .i64 size, .func (.func 23) #[] #[.pointer (some ⟨gx, 0, none⟩)]] W (ListOk (Kd.int .i64) 3 (numS 1) w0 W p size st) := by
  have HN := Aside0.mk (rnum_calls size (by omega) w0 W p A c st hR)
  have HNB := Aside0.mk (numS_bound size st hR.oct (by omega))
  have hpW := blk_lt hR.cell
  have HGX := Aside0.mk hx
  clear hR hx
  go_enter Tryd.func22, Tryd.ntmps22
  go_wp2_with fail
  refine HN.out.mono ?_
  rintro e w1 ⟨A1, c1, rfl, hR1, hK1⟩
  have HQE : Aside0 (listS (numS 1) size st = loopS (numS 1) (numS size st).1.toNat (numS size st).2) := ⟨rfl⟩
  obtain ⟨q, hq⟩ : ∃ q : Nat, (numS size st).1 = (q : Int) := ⟨(numS size st).1.toNat, by have := HNB.out.1; omega⟩
  obtain ⟨s1, hs1⟩ : ∃ s1, s1 = (numS size st).2 := ⟨_, rfl⟩
  rw [hq, ← hs1, Int.toNat_natCast] at HQE
  rw [← hs1] at hR1
  rw [hq]
  have hqb : q < 4294967296 := by
    have h1 := HNB.out.2
    rw [hq] at h1
    have hm : size = 0 ∨ size = 1 ∨ size = 2 ∨ size = 3 ∨ size = 4 := by omega
    have hp : (256 : Int) ^ size ≤ 4294967296 := by rcases hm with h | h | h | h | h <;> rw [h] <;> decide
    omega
  have HR1 := Aside0.mk hR1
  have HK1 := Aside0.mk hK1
  clear hR1 hK1 HN hq hs1 HNB
  go_wp2_with fail
  obtain ⟨⟨l, s2⟩, hl⟩ : ∃ l, l = listS (numS 1) size st := ⟨_, rfl⟩
  have HLE := Aside0.mk hl
  clear hl
  go_loopw [7, 8] (fun v7 v8 wr => ∃ (m : Nat) (s3 : List Int × Bool) (A3 : Option Addr) (c3 : Nat) (done : List Int), v8 = .int .i64 m ∧ Aside0 (m + done.length ≤ q) ∧ Aside0 (Rd w0 wr p A3 c3 s3) ∧ Aside0 (Kd.R (Kd.int .i64) 3 wr W.heap.size (fun k => k ≠ p) v7 done) ∧ Aside0 (Kept W wr (fun k => k = p)) ∧ Aside0 (done ++ (loopS (numS 1) m s3).1 = l ∧ (loopS (numS 1) m s3).2 = s2)) (fun _ v8 _ => (intOf v8).toNat)
  case atStart => exact ⟨q, s1, A1, c1, [], rfl, ⟨Nat.le_refl _⟩, ⟨HR1.out⟩, ⟨Kd.R_nil _ _ _ _ _⟩, ⟨HK1.out⟩, ⟨by have := HLE.out; rw [HQE.out] at this; rw [← this]; exact ⟨rfl, rfl⟩⟩⟩
  case round =>
    obtain ⟨m, ⟨bs3, bad3⟩, A3, c3, done, rfl, HM, HR3, HO3, HK3, HE3⟩ := hrel
    have hc1 := (blk_cell HR3.out.cell 1).trans rfl
    have hmq := HM.out
    by_cases h0 : m = 0
    · subst h0
      go_wp2
      refine bodyPost_ret (results_tmp rfl _ _ _) rfl ?_
      have h2 := HE3.out
      rw [loopS, List.append_nil] at h2
      obtain ⟨rfl, rfl⟩ := h2
      unfold ListOk
      rw [← HLE.out]
      exact ⟨_, A3, c3, rfl, HO3.out, HR3.out, HK3.out⟩
    · obtain ⟨k, rfl⟩ : ∃ k, m = k + 1 := ⟨m - 1, by omega⟩
      have hgt : decide ((((k + 1 : Nat) : Int)) > 0) = true := decide_eq_true (by omega)
      have hgt' : decide (0 < (((k + 1 : Nat) : Int))) = true := decide_eq_true (by omega)
      cases bad3 with
      | true =>
        go_wp2
        refine bodyPost_ret (results_tmp rfl _ _ _) rfl ?_
        have h2 := HE3.out
        rw [loopS, if_pos (by trivial), List.append_nil] at h2
        obtain ⟨rfl, rfl⟩ := h2
        unfold ListOk
        rw [← HLE.out]
        exact ⟨_, A3, c3, rfl, HO3.out, HR3.out, HK3.out⟩
      | false =>
        have h2 := HE3.out
        rw [loopS, if_neg (show ¬ ((bs3, false).2 = true) from Bool.false_ne_true)] at h2
        obtain ⟨⟨x, s4⟩, hx⟩ : ∃ x, x = (numS 1) (bs3, false) := ⟨_, rfl⟩
        rw [← hx] at h2
        have HE4 := Aside0.mk h2
        have HX := Aside0.mk hx
        obtain ⟨Ao, co, rfl⟩ := Kd.R_slice HO3.out
        have HC := Aside0.mk (dnum_calls w0 wr p A3 c3 (bs3, false) gx HR3.out ((HK3.out.2 gx (blk_lt HGX.out) hgx).trans HGX.out))
        clear h2 hx HE3
        go_wp2_with fail
        refine HC.out.mono ?_
        rintro e w4 ⟨A4, c4, rfl, hR4, hK4⟩
        rw [← HX.out] at hR4
        rw [← HX.out]
        have HR4 := Aside0.mk hR4
        have HO4 := Aside0.mk (Kd.R_step HO3.out (fun k hk hlt => hK4.2 k hlt hk))
        have HK4 := Aside0.mk (Kept.then_ HK3.out hK4 (fun k hk => .inl hk))
        have hsz4 : W.heap.size ≤ w4.heap.size := HK4.out.1
        clear hR4 hK4
        go_wp2_with (at_builtin; (refine Kd.R_append (Kd.int .i64) (w0 := w4) W.heap.size rfl (.tmp 23) (.tmp 26) 23 3 (.int .i64 0) 8 rfl Tryd.underlying23 PB.info3 rfl (by decide) (by omega) (.slice Ao done.length co) done x [.int .i64 x] (fun k => k ≠ p) (fun _ => False) rfl ?aX rfl (fun _ hk => hk.elim) (fun k hk => by omega) ?aO ?aB ?aS ?aL ?_; (case aX => rfl); (case aO => exact HO4.out); (case aB => exact Below.refl _ _); (case aS => exact hsz4); (case aL => omega); intro v5 w5 ho5 hb5 hg5 hat5; obtain ⟨A5, c5, rfl⟩ := Kd.R_slice ho5; rw [List.length_append, List.length_singleton] at ho5 ⊢; have HO5 := Aside0.mk ho5; have HB5 := Aside0.mk hb5; clear ho5 hb5 hg5 hat5))
        go_roundw
        case rel =>
          refine ⟨k, s4, A4, c4, done ++ [x], by go_num, ⟨by rw [List.length_append, List.length_singleton]; omega⟩, ⟨HR4.out.grow HB5.out hpW⟩, ⟨?_⟩, ⟨kept_grow HK4.out HB5.out⟩, ⟨by rw [List.append_assoc]; exact HE4.out⟩⟩
          exact HO5.out
        case measure => simp [intOf]
end Go.Proofs.YtljhfaneepehcaaDoor.Hand
