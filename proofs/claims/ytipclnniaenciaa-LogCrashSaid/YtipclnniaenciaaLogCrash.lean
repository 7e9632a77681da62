/- LogCrash, walked by hand. -/
import Derived.Test.YtipclnniaenciaaLogPower
import Derived.Deep.CutBlock
import Derived.Test.YtipclnniaenciaaArgs
namespace Go.Proofs.Ytipclnniaenciaa.Hand
open Go.RowKit Go.Maps Go.Proofs.YtipclnniaenciaaW.PrintWords Go.Proofs.YtipclnniaenciaaW.PrintLast Go.Proofs.YtipclnniaenciaaW.PrintMore
set_option linter.unusedVariables false
set_option linter.unusedSimpArgs false
abbrev Ac := By × Bool × Int
def kA : Kd (List Int × Bool × Int) := Kd.iso (Kd.pair (Kd.slice 5 (Kd.int .u8)) (Kd.pair Kd.bool (Kd.int .i64))) (fun x => x)
def acI (x : Ac) : List Int × Bool × Int := (numsL x.1, x.2.1, x.2.2)
/-- An action in memory. -/
theorem act_at {w : World} {A : Option Addr} {al : List Ac} (h : kA.C w A (al.map acI).length (al.map acI)) (i : Nat) (hi : i < al.length) :
    ∃ ad A1 c1, A = some ad ∧ w.cell? (ad.add (i * 3)) = some (.slice A1 al[i].1.length c1) ∧ w.cell? ⟨(ad.add (i * 3)).block, (ad.add (i * 3)).off + 1, none⟩ = some (.bool al[i].2.1) ∧ w.cell? ⟨(ad.add (i * 3)).block, (ad.add (i * 3)).off + 2, none⟩ = some (.int .i64 al[i].2.2) ∧ al[i].1.length ≤ c1 ∧ CB w A1 al[i].1 := by
  obtain ⟨ad, c, e, _, hK, hc0⟩ := Kd.C_get h (([] : List Int), false, (0 : Int)) (i : Int) (by omega) (by rw [List.length_map]; omega)
  have hc : ∀ j u, c[j]? = some u → w.cell? (ad.add (i * 3 + j)) = some u := hc0
  rw [Int.toNat_natCast, List.getD_eq_getElem?_getD, List.getElem?_map, List.getElem?_eq_getElem hi] at hK
  obtain ⟨p1, p2, rfl, ⟨A1, c1, rfl, hl, hC⟩, p3, p4, rfl, hb, hn⟩ := hK
  change p3 = [.bool al[i].2.1] at hb
  change p4 = [.int .i64 al[i].2.2] at hn
  subst hb hn
  have hl' : al[i].1.length ≤ c1 := by have h2 : (numsL al[i].1).length ≤ c1 := hl; rw [nums_len] at h2; exact h2
  have e0 := hc 0 _ rfl
  have e0' : w.cell? (ad.add (i * 3)) = some (.slice A1 (numsL al[i].1).length c1) := e0
  rw [nums_len] at e0'
  exact ⟨ad, A1, c1, e, e0', by rw [← add_field _ _ 1 (by omega)]; exact hc 1 _ rfl, by rw [← add_field _ _ 2 (by omega)]; exact hc 2 _ rfl, hl', hC⟩
/-- At the head of the actions' loop. -/
def CI (W w : World) (q p : Nat) (i : Nat) (v14 v15 : Value) : Prop :=
  ∃ A B D x F now, LT W w A B D q p ⟨nA, now, false⟩ (stP x 16777216 F) v14 now v15 now ∧ x.getD [] = frs now ∧ (∀ y ∈ now, y.length ≤ 300) ∧ now.length ≤ i ∧ 0 ≤ F ∧ F ≤ 9223372036854775807
/-- Behind it. -/
def CE (W w : World) (p : Nat) (v14 v15 : Value) : Prop :=
  ∃ A B D q l st now thn, LT W w A B D q p l st v14 now v15 thn ∧ CG (Pn now thn) st ∧ st.room = 16777216 ∧ st.Fit 2000000 200 ∧ now.length ≤ 30 ∧ thn.length ≤ 30
theorem CI.start {W w : World} {A B D : Nat → Prop} {q p : Nat} {F : Int} (h : LT W w A B D q p ⟨nA, [], false⟩ (stP none 16777216 F) (.slice none 0 0) [] (.slice none 0 0) []) (h0 : 0 ≤ F) (h1 : F ≤ 9223372036854775807) : CI W w q p 0 (.slice none 0 0) (.slice none 0 0) :=
  ⟨A, B, D, none, F, [], h, rfl, (fun y hy => by cases hy), Nat.le_refl _, h0, h1⟩
theorem CI.ends {W w : World} {q p i : Nat} {v14 v15 : Value} (h : CI W w q p i v14 v15) (hi : i ≤ 20) : CE W w p v14 v15 := by
  obtain ⟨A, B, D, x, F, now, hL, hx, hs, hn, h0, h1⟩ := h
  have hf := frs_small 300 now hs
  have hl : (frs now).length ≤ 20000 := Nat.le_trans hf (Nat.le_trans (Nat.mul_le_mul_right _ (Nat.le_trans hn hi)) (by decide))
  exact ⟨A, B, D, q, _, _, now, now, hL, G1.cg stP_g1 (Pn.of hx (by omega) (fun b hb => by have := hs b hb; omega)), rfl, (stP_fit x 16777216 F (by rw [hx]; omega) h0 h1).less (by decide) (by decide), by omega, by omega⟩
section
variable {W w w' : World} {A B D A' B' : Nat → Prop} {q p : Nat} {l l' : LSt} {st st' : DSt} {v14 v15 v' : Value} {now thn rs xs : List By}
theorem LT.app (h : LT W w A B D q p ⟨nA, xs, false⟩ st v14 now v15 thn) {Ab : Option Addr} {c : Nat} {b : By} (hC : CB W Ab b) (hc : b.length ≤ c) (hb : b.length ≤ 1000000000) {n m : Nat} (hf : st.Fit (n + (b.length + 8)) (m + 1)) (hxs : xs.length ≤ 100000000) :
    Calls Try.prog 18 #[.pointer (some ⟨q, 0, none⟩), .slice Ab b.length c] w fun e w' => e = .returned (.int .i64 (lappR ⟨nA, xs, false⟩ st b)) ∧ ∃ A' B', LT W w' A' B' D q p (lappL ⟨nA, xs, false⟩ st b) (lappS ⟨nA, xs, false⟩ st b) v14 now v15 thn :=
  (lapp_calls w A B q p ⟨nA, xs, false⟩ st Ab c b h.law.2.1 h.law.1.1 h.law.2.2.1 (fun _ => hf.less (by omega) (by omega)) (fun w' hc => Kd.C_below hC (h.low.trans (hc.to_below (B := W.heap.size) h.base h.low.size))) hc hb (by show nA.size ≤ 20; decide) hxs).mono fun e w' ⟨h1, A', B', k⟩ => ⟨h1, A', B', h.log k⟩
theorem LT.com {A15 : Option Addr} {n15 c15 : Nat} (h : LT W w A B D q p ⟨nA, xs, false⟩ st v14 now (.slice A15 n15 c15) thn) {n m : Nat} (hf : st.Fit (n + (frs thn).length) (m + 3)) (hm : thn.length ≤ 100000000) (hl : (frs thn).length ≤ 1000000000) :
    Calls Try.prog 20 #[.pointer (some ⟨q, 0, none⟩), .slice A15 n15 c15] w fun e w' => e = .returned (.int .i64 (lcomR ⟨nA, xs, false⟩ st thn)) ∧ ∃ A' B', LT W w' A' B' D q p (lcomL ⟨nA, xs, false⟩ st thn) (lcomS ⟨nA, xs, false⟩ st thn) v14 now (.slice A15 n15 c15) thn := by
  have hn : n15 = thn.length ∧ n15 ≤ c15 := by
    have := Kd.N_reads' h.n15
    rw [List.length_map] at this
    exact ⟨this.1, this.2.1⟩
  have hcr : ∀ w', Chg (fun k => A k ∨ B k) w w' → CR w' A15 thn := fun w' hc => (Kd.N_reads' (NB_chg h.n15 hc h.far)).2.2
  have := lcom_calls w A B q p ⟨nA, xs, false⟩ st A15 c15 thn h.law.2.1 h.law.1.1 h.law.2.2.1 (fun _ => hf.less (by omega) (by omega)) hcr (by omega) hm hl (by show nA.size ≤ 20; decide)
  rw [← hn.1] at this
  exact this.mono fun e w' ⟨h1, A', B', k⟩ => ⟨h1, A', B', h.log k⟩
end
theorem cut_recs (A : Option Addr) (n c m : Nat) (j : Int) (hj : j = m) (hm : m ≤ n) (hc : n ≤ c) :
    ∃ As ns cs, ns = n - m ∧ (∀ W : World, (Instr.slice 32 (.slice A n c) (some (.int .i64 j)) none none).run Try.prog W = .ok (.slice As ns cs) W) ∧
      ∀ (w : World) (ok : Nat → Prop) (rs : List By), n = rs.length → Kd.F (Kd.slice 5 (Kd.int .u8)) w ok A n (rs.map numsL) → Kd.F (Kd.slice 5 (Kd.int .u8)) w ok As ns ((rs.drop m).map numsL) := by
  obtain ⟨i0, hi, hzz⟩ := Option.map_eq_some_iff.1 infoSl
  simp only [Prod.mk.injEq] at hzz
  have h := cut_from (P := Try.prog) 32 22 .i64 Try.underlying32 hi 1 hzz.2.1 A n c j (by omega) (by omega)
  rw [hj, Int.toNat_natCast] at h
  rw [hj]
  refine ⟨_, _, _, rfl, h, ?_⟩
  rintro w ok rs rfl hf
  have hf' : Kd.F (Kd.slice 5 (Kd.int .u8)) w ok A (rs.map numsL).length (rs.map numsL) := by rw [List.length_map]; exact hf
  have := Kd.F_cut (m := m) (c := c) hf' (by rw [List.length_map]; exact hm) (by rw [List.length_map]; exact hc)
  rw [List.length_drop, List.length_map, ← List.map_drop] at this
  exact this
theorem N_nil0g {w : World} {ok : Nat → Prop} {g : Nat} (hg : w.heap.size = g) (hok : ok g) : NB (w.alloc (.cells #[] 22)) ok (.slice (some ⟨g, 0, none⟩) 0 0) [] := by
  subst hg
  exact N_nil0 hok
theorem blk_newg {w : World} {g : Nat} {ob : Obj} (hg : w.heap.size = g) : (w.alloc ob).heap[g]? = some ob := by
  subst hg
  exact blk_new w ob
/-- Half way through 'append(append([][]byte{}, now...), b)': now's copy v64, and the row of b alone in block g. -/
def Mid (W w1 : World) (D : Nat → Prop) (Ay : Option Addr) (y : By) (cy : Nat) (now : List By) (v64 : Value) (g : Nat) (w' : World) : Prop :=
  Below w1.heap.size w1 w' ∧ NB w' (fun k => (D k ∨ k < W.heap.size) ∨ w1.heap.size ≤ k) v64 now ∧ (∀ k, v64.ownBlock = some k → w1.heap.size ≤ k) ∧ w'.heap[g]? = some (.cells #[.slice Ay y.length cy] 22 (0, 0)) ∧ w1.heap.size ≤ g ∧ (∀ k, v64.ownBlock = some k → k ≠ g)
theorem cell_rd' {w : World} {ad : Addr} {l : List Int} (h : Kd.C (Kd.int .u8) w (some ad) l.length l) (i : Nat) (hi : i < l.length) : w.cell? (ad.add i) = some (.int .u8 (rd l i)) := by
  have := Kd.foot_int h (i : Int) (by omega) (by omega)
  rw [Int.toNat_natCast] at this
  exact this
/-- Between a Crash and the next. -/
def GI (W w : World) (D : Nat → Prop) (p q : Nat) (l : LSt) (now thn : List By) (v14 v15 : Value) (i : Nat) : Prop :=
  ∃ A B o X N, LT W w A B D q p l (stC o X N 16777216) v14 now v15 thn ∧ Pn now thn X ∧ (stC o X N 16777216).Fit (200000 * (10 - i)) (20 * (10 - i))
theorem GI.of {W w : World} {A B D : Nat → Prop} {p q : Nat} {l : LSt} {now thn : List By} {v14 v15 : Value} {i : Nat} {st : DSt} {keep torn : Int} (h : LT W w A B D q p l (crashS st keep torn) v14 now v15 thn) (hcg : CG (Pn now thn) st) (hr : st.room = 16777216) (hf : st.Fit (200000 * (10 - i)) (20 * (10 - i))) : GI W w D p q l now thn v14 v15 i := by
  obtain ⟨o, X, N, e1, hP⟩ := hcg keep torn
  have hf2 := hf.crash keep torn
  rw [e1, hr] at h hf2
  exact ⟨A, B, o, X, N, h, hP, hf2⟩
set_option maxRecDepth 100000 in
set_option maxHeartbeats 16000000 in
theorem LogCrash_calls (W : World) (AL AG : Option Addr) (cL cG : Nat) (al : List Ac) (gs : List Int) (fuse keep torn : Int) (hL : kA.C W AL (al.map acI).length (al.map acI)) (hG : Kd.C (Kd.int .u8) W AG gs.length gs) (hcL : al.length ≤ cL) (hcG : gs.length ≤ cG) (hl : al.length ≤ 10000000000000) (hg : gs.length ≤ 1000000000000000) (hgb : ∀ x ∈ gs, 0 ≤ x ∧ x < 256) (hf0 : -9223372036854775808 ≤ fuse ∧ fuse ≤ 9223372036854775807) (hni : ∀ x ∈ al, -9223372036854775808 ≤ x.2.2 ∧ x.2.2 ≤ 9223372036854775807) :
    Calls Try.prog 7 #[.slice AL al.length cL, .int .i64 fuse, .int .i64 keep, .int .i64 torn, .slice AG gs.length cG] W fun e w' => e = .returned (.bool true) ∧ Below W.heap.size W w' := by
  have HL := Aside0.mk hL
  have HG := Aside0.mk hG
  have HCG := Aside0.mk hcG
  have HGB := Aside0.mk hgb
  have HNI := Aside0.mk hni
  clear hL hG hgb hni
  by_cases h1 : (20 : Int) < al.length
  · go_enter Try.func7, Try.ntmps7
    go_wp2_with fail
    refine (answers_calls _).mono ?_
    rintro e w4 ⟨rfl, hb4⟩
    have HB4 := Aside0.mk hb4
    clear hb4
    go_wp2
    go_ret
    exact ⟨rfl, HB4.out⟩
  · by_cases h2 : (6 : Int) < gs.length
    · go_enter Try.func7, Try.ntmps7
      go_wp2_with fail
      refine (answers_calls _).mono ?_
      rintro e w4 ⟨rfl, hb4⟩
      have HB4 := Aside0.mk hb4
      clear hb4
      go_wp2
      go_ret
      exact ⟨rfl, HB4.out⟩
    · have HNW := Aside0.mk (fun W => New_law W 16777216)
      go_enter Try.func7, Try.ntmps7
      go_wp2_with fail
      refine (HNW.out _).mono ?_
      rintro e w1 ⟨p, A1, rfl, hD1⟩
      have HO := Aside0.mk (hD1.opnew (by decide))
      clear hD1 HNW
      go_wp2_with fail
      refine HO.out.mono ?_
      rintro e w2 ⟨q, A2, B2, rfl, hL2⟩
      have HFU := Aside0.mk ((LT.start hL2).fuse fuse)
      rw [show fuseS (newS 16777216) fuse = stP none 16777216 (if fuse < 0 then 0 else fuse) from rfl] at HFU
      have HFB := Aside0.mk (show 0 ≤ (if fuse < 0 then 0 else fuse) ∧ (if fuse < 0 then 0 else fuse) ≤ 9223372036854775807 from by split <;> omega)
      obtain ⟨F0, hF0⟩ : ∃ F, F = (if fuse < 0 then 0 else fuse) := ⟨_, rfl⟩
      rw [← hF0] at HFU HFB
      clear hL2 HO hF0
      go_wp2_with fail
      refine HFU.out.mono ?_
      rintro e w3 ⟨rfl, A3, B3, hL3⟩
      have HL3 := Aside0.mk hL3
      clear hL3 HFU
      go_upto_block 0 with fail
      go_cut [14, 15] from 47 to 102 (fun v14 v15 wc => Aside0 (CE W wc p v14 v15))
      case first =>
        go_wp2
        go_loopw [14, 15, 16] (fun v14 v15 v16 wr => ∃ i : Nat, v16 = .int .i64 i ∧ i ≤ al.length ∧ Aside0 (CI W wr q p i v14 v15)) (fun _ _ v16 _ => al.length - (intOf v16).toNat)
        case atStart => exact ⟨0, rfl, Nat.zero_le _, ⟨CI.start HL3.out HFB.out.1 HFB.out.2⟩⟩
        case round =>
          obtain ⟨i, rfl, hi, HI⟩ := hrel
          obtain ⟨A, B, D, x, F, now, hR, hx, hsm, hnw, hF0, hF1⟩ := HI.out
          have HX := Aside0.mk hx
          have HSM := Aside0.mk hsm
          have HFF := Aside0.mk (And.intro hF0 hF1)
          obtain ⟨A14, c14, e14, hl14, hC14⟩ := NB_slice hR.n14
          obtain ⟨n14, hn14⟩ : ∃ n, n = now.length := ⟨_, rfl⟩
          rw [← hn14] at e14 hl14 hnw
          subst e14
          have HN14 := Aside0.mk hn14
          have HR := Aside0.mk hR
          clear hR hx hsm hF0 hF1 hC14 hn14
          by_cases hlt : i < al.length
          · clear HI
            obtain ⟨ad, Ay, cy, rfl, hz0, hz1, hz2, hly, hCy⟩ := act_at HL.out i hlt
            have hni := HNI.out _ (List.getElem_mem hlt)
            obtain ⟨y, hy⟩ : ∃ y, y = al[i].1 := ⟨_, rfl⟩
            obtain ⟨pk, hpk⟩ : ∃ y, y = al[i].2.1 := ⟨_, rfl⟩
            obtain ⟨nn, hnn⟩ : ∃ y, y = al[i].2.2 := ⟨_, rfl⟩
            rw [← hy] at hz0 hly hCy
            rw [← hpk] at hz1
            rw [← hnn] at hz2 hni
            have HCY := Aside0.mk hCy
            clear hy hpk hnn hCy
            replace hz0 := cellLow hz0 HR.out.low
            replace hz1 := cellLow hz1 HR.out.low
            replace hz2 := cellLow hz2 HR.out.low
            by_cases hbig : (300 : Int) < y.length
            · go_wp2_with fail
              refine (answers_calls _).mono ?_
              rintro e w4 ⟨rfl, hb4⟩
              have HB4 := Aside0.mk hb4
              clear hb4
              go_wp2
              go_ret
              exact ⟨rfl, ((HR.out.below (below_alloc (Below.refl wr.heap.size wr) (.cells #[.slice Ay y.length cy, .bool pk, .int .i64 nn] 51))).below HB4.out).low⟩
            · go_wp2
              obtain ⟨w5, hw5⟩ : ∃ w, w = wr.alloc (.cells #[.slice Ay y.length cy, .bool pk, .int .i64 nn] 51) := ⟨_, rfl⟩
              rw [← hw5]
              have hb5 : Below wr.heap.size wr w5 := by rw [hw5]; exact below_alloc (Below.refl wr.heap.size wr) _
              have HGA := Aside0.mk (show w5.heap[wr.heap.size]? = some (.cells #[.slice Ay y.length cy, .bool pk, .int .i64 nn] 51 (0, 0)) from by rw [hw5]; exact blk_new wr _)
              obtain ⟨ga, hga⟩ : ∃ g, g = wr.heap.size := ⟨_, rfl⟩
              rw [← hga] at HGA
              rw [← hga]
              have HR5 := Aside0.mk (HR.out.below hb5)
              have HZ0 := Aside0.mk (show w5.cell? ⟨ga, 0, none⟩ = some (.slice Ay y.length cy) from (blk_cell HGA.out 0).trans rfl)
              have HZ1 := Aside0.mk (show w5.cell? ⟨ga, 1, none⟩ = some (.bool pk) from (blk_cell HGA.out 1).trans rfl)
              have HZ2 := Aside0.mk (show w5.cell? ⟨ga, 2, none⟩ = some (.int .i64 nn) from (blk_cell HGA.out 2).trans rfl)
              have HFAR := Aside0.mk (show ∀ k, (D k ∨ k < W.heap.size) → k < w5.heap.size from fun k hk => hk.elim (fun g => (HR5.out.d k g).2) (fun g => Nat.lt_of_lt_of_le g HR5.out.low.size))
              have HNN := Aside0.mk hni
              clear hw5 hb5 hga hz0 hz1 hz2 hni HR
              refine start_ (n := 8) (S := fun w' => w'.cell? ⟨ga, 0, none⟩ = some (.slice Ay y.length cy)) (ds := []) #[false, false, false, false, false, false, false, false] (by kernel_rfl) rfl rfl (cellLow HZ0.out (below_drew (Below.refl _ _))) (fun hHeld => ?_)
              refine pure_ (i := 1) (N := some 63) (v := ?_) (a' := ?_) #[false, true, false, false, false, false, false, false] rfl rfl (by kernel_rfl) (fun _ _ _ h => h) (Or.inl ⟨by rfl, ?_⟩) ?_ ?_
              rotate_left
              · intro w'
                go_simp
                with_reducible rfl
              rotate_left
              · simp only [Act.put, List.setIfInBounds_toArray, List.set_cons_zero, List.set_cons_succ, i64_w, i32_w]
                rfl
              refine pure_ (i := 3) (N := some 65) (v := ?_) (a' := ?_) #[false, true, false, true, false, false, false, false] rfl rfl (by kernel_rfl) (fun _ _ _ h => h) (Or.inl ⟨by rfl, ?_⟩) ?_ ?_
              rotate_left
              · intro w'
                go_simp
                with_reducible rfl
              rotate_left
              · simp only [Act.put, List.setIfInBounds_toArray, List.set_cons_zero, List.set_cons_succ, i64_w, i32_w]
                rfl
              refine take_ (i := 4) (N := some 66) (v := ?_) (a' := ?_) #[false, true, false, true, true, false, false, false] rfl rfl (by kernel_rfl) (fun _ _ _ h => h) (Or.inl ⟨by rfl, ?_⟩) hHeld ?_ ?_
              rotate_left
              · intro w' s0
                go_simp
                with_reducible rfl
              rotate_left
              · simp only [Act.put, List.setIfInBounds_toArray, List.set_cons_zero, List.set_cons_succ, i64_w, i32_w]
                rfl
              refine join_ (σ := Value × Value × Nat) 2 #[true, true, true, true, true, true, false, false] (fun s_ => [(62, s_.1), (64, s_.2.1), (67, .slice (some ⟨s_.2.2, 0, none⟩) 1 1)]) (fun s_ w' => (w'.cell? ⟨ga, 0, none⟩ = some (.slice Ay y.length cy)) ∧ Mid W w5 D Ay y cy now s_.2.1 s_.2.2 w') ?_ ?_
              rotate_left
              · intro hCont
                refine two_ (i := 0) (j := 5) (Ni := some 62) (Nj := some 67) #[true, true, false, true, true, false, false, false] #[false, true, false, true, true, true, false, false] rfl rfl rfl rfl (by kernel_rfl) (by decide) (by decide) (fun K hK => ?_) (fun K hK => ?_)
                · skip
                  refine value_ (w1 := ?_) (v := ?_) (by rfl) rfl ?_ ?_
                  rotate_left 2
                  · go_simp
                    constructor
                    · rfl
                    · rfl
                  refine hK.out _ _ (cellLow HZ0.out (below_drew (below_alloc (Below.refl w5.heap.size w5) _))) (fun hHeld => ?_)
                  clear hK K
                  refine norm_ (a' := ?_) ?_ ?_
                  rotate_left
                  · show Act.put _ (some 62) _ = _
                    simp only [Act.put, List.setIfInBounds_toArray, List.set_cons_zero, List.set_cons_succ, i64_w, i32_w]
                    rfl
                  refine two_ (i := 2) (j := 5) (Ni := some 64) (Nj := some 67) #[true, true, true, true, true, false, false, false] #[true, true, false, true, true, true, false, false] rfl rfl rfl rfl (by kernel_rfl) (by decide) (by decide) (fun K hK => ?_) (fun K hK => ?_)
                  · skip
                    refine Kd.N_append_rows_step (Kd.slice 5 (Kd.int .u8)) (w0 := (w5.alloc (.cells #[] 22)).drew) 0 (by rfl) (.tmp 62) (.tmp 63) 32 22 (.slice none 0 0) 24 rfl Try.underlying32 infoSl rfl (by decide) (by omega) (.slice (some ⟨w5.heap.size, 0, none⟩) 0 0) ([] : List (List Int)) (now.map numsL) A14 n14 c14 (fun k => (D k ∨ k < W.heap.size) ∨ w5.heap.size ≤ k) (fun k => D k ∨ k < W.heap.size) rfl rfl ?aO ?aR ?aK ?aF ?aB ?aS ?aL ?_
                    (case aO => exact Kd.N_below (N_nil0g (w := w5) (g := w5.heap.size) (by first | rfl | exact Array.size_push .. | simp) (.inr (by omega))) (below_drew (Below.refl _ _)))
                    (case aR => exact Kd.N_F (Kd.N_below HR5.out.n14 (below_drew (below_alloc (Below.refl w5.heap.size w5) _))))
                    (case aK => exact fun k hk => ⟨.inl hk, fun he => by have h1 := HFAR.out k hk; have h2 : k = w5.heap.size := (by injection he); omega⟩)
                    (case aF => exact fun k hk => .inr (Nat.le_trans (below_drew (below_alloc (Below.refl w5.heap.size w5) _)).size hk))
                    (case aB => exact Below.refl _ _)
                    (case aS => exact Nat.zero_le _)
                    (case aL => show (0 + n14) * 24 ≤ _; omega)
                    intro v64 w6 ho6 hb6 hg6 hat6
                    have HO6 := Aside0.mk (show NB w6 (fun k => (D k ∨ k < W.heap.size) ∨ w5.heap.size ≤ k) v64 now from ho6)
                    have HG6 : Aside0 (w5.heap.size ≤ w5.heap.size) := ⟨by omega⟩
                    have HB6 := Aside0.mk ((below_drew (below_alloc (Below.refl w5.heap.size w5) _)) |>.trans (Chg.to_below (Chg.of_grown (F := fun k => w5.heap.size ≤ k) hg6 (fun k hk => .inl (by have h2 : w5.heap.size = k := (by injection hk); have := HG6.out; omega))) (fun k hk => hk) (below_drew (below_alloc (Below.refl w5.heap.size w5) _)).size))
                    have HW6 := Aside0.mk (show ∀ k, v64.ownBlock = some k → k = w5.heap.size ∨ (w5.alloc (.cells #[] 22)).drew.heap.size ≤ k from fun k hk => hat6.elim (fun h => .inl (by rw [h] at hk; exact (Option.some.inj hk).symm)) (fun h => .inr (by obtain ⟨b, hb, hle⟩ := h; rw [hb] at hk; have := Option.some.inj hk; omega)))
                    clear ho6 hb6 hg6 hat6
                    refine hK.out _ _ (cellLow HZ0.out HB6.out) (fun hHeld => ?_)
                    clear hK K
                    refine norm_ (a' := ?_) ?_ ?_
                    rotate_left
                    · show Act.put _ (some 64) _ = _
                      simp only [Act.put, List.setIfInBounds_toArray, List.set_cons_zero, List.set_cons_succ, i64_w, i32_w]
                      rfl
                    refine one_ (i := 5) (N := some 67) #[true, true, true, true, true, true, false, false] rfl rfl (by kernel_rfl) (by decide) (fun K hK => ?_)
                    refine value_ (w1 := ?_) (v := ?_) (by rfl) rfl ?_ ?_
                    rotate_left 2
                    · go_simp
                      constructor
                      · rfl
                      · rfl
                    refine hK.out _ _ (cellLow HZ0.out (below_alloc HB6.out _)) (fun hHeld => ?_)
                    clear hK K
                    refine norm_ (a' := ?_) ?_ ?_
                    rotate_left
                    · show Act.put _ (some 67) _ = _
                      simp only [Act.put, List.setIfInBounds_toArray, List.set_cons_zero, List.set_cons_succ, i64_w, i32_w]
                      rfl
                    exact norm_ (by simp only [putAll, Act.put, List.setIfInBounds_toArray, List.set_cons_zero, List.set_cons_succ]) (hCont (.slice (some ⟨w5.heap.size, 0, none⟩) 0 0, v64, w6.heap.size) _ ⟨hHeld, ⟨below_alloc HB6.out _, Kd.N_below HO6.out (below_alloc (Below.refl _ _) _), (fun k hk => (HW6.out k hk).elim (fun h => by have := HG6.out; omega) (fun h => Nat.le_trans (below_drew (below_alloc (Below.refl w5.heap.size w5) _)).size h)), blk_new _ _, HB6.out.size, fun k hk => Nat.ne_of_lt ((Kd.N_bound HO6.out).1 k hk).2⟩⟩)
                  · skip
                    refine value_ (w1 := ?_) (v := ?_) (by rfl) rfl ?_ ?_
                    rotate_left 2
                    · go_simp
                      constructor
                      · rfl
                      · rfl
                    refine hK.out _ _ (cellLow HZ0.out (below_drew (below_alloc (below_alloc (Below.refl w5.heap.size w5) _) _))) (fun hHeld => ?_)
                    clear hK K
                    refine norm_ (a' := ?_) ?_ ?_
                    rotate_left
                    · show Act.put _ (some 67) _ = _
                      simp only [Act.put, List.setIfInBounds_toArray, List.set_cons_zero, List.set_cons_succ, i64_w, i32_w]
                      rfl
                    refine one_ (i := 2) (N := some 64) #[true, true, true, true, true, true, false, false] rfl rfl (by kernel_rfl) (by decide) (fun K hK => ?_)
                    refine Kd.N_append_rows_step (Kd.slice 5 (Kd.int .u8)) (w0 := ((w5.alloc (.cells #[] 22)).alloc (.cells #[.slice Ay y.length cy] 22)).drew) 0 (by rfl) (.tmp 62) (.tmp 63) 32 22 (.slice none 0 0) 24 rfl Try.underlying32 infoSl rfl (by decide) (by omega) (.slice (some ⟨w5.heap.size, 0, none⟩) 0 0) ([] : List (List Int)) (now.map numsL) A14 n14 c14 (fun k => (D k ∨ k < W.heap.size) ∨ w5.heap.size ≤ k) (fun k => D k ∨ k < W.heap.size) rfl rfl ?aO ?aR ?aK ?aF ?aB ?aS ?aL ?_
                    (case aO => exact Kd.N_below (N_nil0g (w := w5) (g := w5.heap.size) (by first | rfl | exact Array.size_push .. | simp) (.inr (by omega))) (below_drew (below_alloc (Below.refl _ _) _)))
                    (case aR => exact Kd.N_F (Kd.N_below HR5.out.n14 (below_drew (below_alloc (below_alloc (Below.refl w5.heap.size w5) _) _))))
                    (case aK => exact fun k hk => ⟨.inl hk, fun he => by have h1 := HFAR.out k hk; have h2 : k = w5.heap.size := (by injection he); omega⟩)
                    (case aF => exact fun k hk => .inr (Nat.le_trans (below_drew (below_alloc (below_alloc (Below.refl w5.heap.size w5) _) _)).size hk))
                    (case aB => exact Below.refl _ _)
                    (case aS => exact Nat.zero_le _)
                    (case aL => show (0 + n14) * 24 ≤ _; omega)
                    intro v64 w6 ho6 hb6 hg6 hat6
                    have HO6 := Aside0.mk (show NB w6 (fun k => (D k ∨ k < W.heap.size) ∨ w5.heap.size ≤ k) v64 now from ho6)
                    have HG6 : Aside0 (w5.heap.size ≤ w5.heap.size) := ⟨by omega⟩
                    have HB6 := Aside0.mk ((below_drew (below_alloc (below_alloc (Below.refl w5.heap.size w5) _) _)) |>.trans (Chg.to_below (Chg.of_grown (F := fun k => w5.heap.size ≤ k) hg6 (fun k hk => .inl (by have h2 : w5.heap.size = k := (by injection hk); have := HG6.out; omega))) (fun k hk => hk) (below_drew (below_alloc (below_alloc (Below.refl w5.heap.size w5) _) _)).size))
                    have HW6 := Aside0.mk (show ∀ k, v64.ownBlock = some k → k = w5.heap.size ∨ ((w5.alloc (.cells #[] 22)).alloc (.cells #[.slice Ay y.length cy] 22)).drew.heap.size ≤ k from fun k hk => hat6.elim (fun h => .inl (by rw [h] at hk; exact (Option.some.inj hk).symm)) (fun h => .inr (by obtain ⟨b, hb, hle⟩ := h; rw [hb] at hk; have := Option.some.inj hk; omega)))
                    have HC6 := Aside0.mk (show w6.heap[w5.heap.size + 1]? = some (.cells #[.slice Ay y.length cy] 22 (0, 0)) from blk_grown (w := ((w5.alloc (.cells #[] 22)).alloc (.cells #[.slice Ay y.length cy] 22)).drew) (blk_newg (w := (w5.alloc (.cells #[] 22))) (ob := (.cells #[.slice Ay y.length cy] 22)) (by first | rfl | exact Array.size_push .. | simp)) hg6 (fun he => by have h2 : w5.heap.size + 1 = w5.heap.size := Option.some.inj he; omega))
                    clear ho6 hb6 hg6 hat6
                    refine hK.out _ _ (cellLow HZ0.out HB6.out) (fun hHeld => ?_)
                    clear hK K
                    refine norm_ (a' := ?_) ?_ ?_
                    rotate_left
                    · show Act.put _ (some 64) _ = _
                      simp only [Act.put, List.setIfInBounds_toArray, List.set_cons_zero, List.set_cons_succ, i64_w, i32_w]
                      rfl
                    exact norm_ (by simp only [putAll, Act.put, List.setIfInBounds_toArray, List.set_cons_zero, List.set_cons_succ]) (hCont (.slice (some ⟨w5.heap.size, 0, none⟩) 0 0, v64, w5.heap.size + 1) _ ⟨hHeld, ⟨HB6.out, HO6.out, (fun k hk => (HW6.out k hk).elim (fun h => by have := HG6.out; omega) (fun h => Nat.le_trans (below_drew (below_alloc (below_alloc (Below.refl w5.heap.size w5) _) _)).size h)), HC6.out, (by dsimp only; omega), fun k hk => (HW6.out k hk).elim (fun h => by dsimp only; omega) (fun h => by have h3 : w5.heap.size + 1 < ((w5.alloc (.cells #[] 22)).alloc (.cells #[.slice Ay y.length cy] 22)).drew.heap.size := (by simp; try omega); dsimp only; omega)⟩⟩)
                · skip
                  refine value_ (w1 := ?_) (v := ?_) (by rfl) rfl ?_ ?_
                  rotate_left 2
                  · go_simp
                    constructor
                    · rfl
                    · rfl
                  refine hK.out _ _ (cellLow HZ0.out (below_drew (below_alloc (Below.refl w5.heap.size w5) _))) (fun hHeld => ?_)
                  clear hK K
                  refine norm_ (a' := ?_) ?_ ?_
                  rotate_left
                  · show Act.put _ (some 67) _ = _
                    simp only [Act.put, List.setIfInBounds_toArray, List.set_cons_zero, List.set_cons_succ, i64_w, i32_w]
                    rfl
                  refine one_ (i := 0) (N := some 62) #[true, true, false, true, true, true, false, false] rfl rfl (by kernel_rfl) (by decide) (fun K hK => ?_)
                  refine value_ (w1 := ?_) (v := ?_) (by rfl) rfl ?_ ?_
                  rotate_left 2
                  · go_simp
                    constructor
                    · rfl
                    · rfl
                  refine hK.out _ _ (cellLow HZ0.out (below_drew (below_alloc (below_alloc (Below.refl w5.heap.size w5) _) _))) (fun hHeld => ?_)
                  clear hK K
                  refine norm_ (a' := ?_) ?_ ?_
                  rotate_left
                  · show Act.put _ (some 62) _ = _
                    simp only [Act.put, List.setIfInBounds_toArray, List.set_cons_zero, List.set_cons_succ, i64_w, i32_w]
                    rfl
                  refine one_ (i := 2) (N := some 64) #[true, true, true, true, true, true, false, false] rfl rfl (by kernel_rfl) (by decide) (fun K hK => ?_)
                  refine Kd.N_append_rows_step (Kd.slice 5 (Kd.int .u8)) (w0 := ((w5.alloc (.cells #[.slice Ay y.length cy] 22)).alloc (.cells #[] 22)).drew) 0 (by rfl) (.tmp 62) (.tmp 63) 32 22 (.slice none 0 0) 24 rfl Try.underlying32 infoSl rfl (by decide) (by omega) (.slice (some ⟨w5.heap.size + 1, 0, none⟩) 0 0) ([] : List (List Int)) (now.map numsL) A14 n14 c14 (fun k => (D k ∨ k < W.heap.size) ∨ w5.heap.size ≤ k) (fun k => D k ∨ k < W.heap.size) rfl rfl ?aO ?aR ?aK ?aF ?aB ?aS ?aL ?_
                  (case aO => exact Kd.N_below (N_nil0g (w := (w5.alloc (.cells #[.slice Ay y.length cy] 22))) (g := w5.heap.size + 1) (by first | rfl | exact Array.size_push .. | simp) (.inr (by omega))) (below_drew (Below.refl _ _)))
                  (case aR => exact Kd.N_F (Kd.N_below HR5.out.n14 (below_drew (below_alloc (below_alloc (Below.refl w5.heap.size w5) _) _))))
                  (case aK => exact fun k hk => ⟨.inl hk, fun he => by have h1 := HFAR.out k hk; have h2 : k = w5.heap.size + 1 := (by injection he); omega⟩)
                  (case aF => exact fun k hk => .inr (Nat.le_trans (below_drew (below_alloc (below_alloc (Below.refl w5.heap.size w5) _) _)).size hk))
                  (case aB => exact Below.refl _ _)
                  (case aS => exact Nat.zero_le _)
                  (case aL => show (0 + n14) * 24 ≤ _; omega)
                  intro v64 w6 ho6 hb6 hg6 hat6
                  have HO6 := Aside0.mk (show NB w6 (fun k => (D k ∨ k < W.heap.size) ∨ w5.heap.size ≤ k) v64 now from ho6)
                  have HG6 : Aside0 (w5.heap.size ≤ w5.heap.size + 1) := ⟨by omega⟩
                  have HB6 := Aside0.mk ((below_drew (below_alloc (below_alloc (Below.refl w5.heap.size w5) _) _)) |>.trans (Chg.to_below (Chg.of_grown (F := fun k => w5.heap.size ≤ k) hg6 (fun k hk => .inl (by have h2 : w5.heap.size + 1 = k := (by injection hk); have := HG6.out; omega))) (fun k hk => hk) (below_drew (below_alloc (below_alloc (Below.refl w5.heap.size w5) _) _)).size))
                  have HW6 := Aside0.mk (show ∀ k, v64.ownBlock = some k → k = w5.heap.size + 1 ∨ ((w5.alloc (.cells #[.slice Ay y.length cy] 22)).alloc (.cells #[] 22)).drew.heap.size ≤ k from fun k hk => hat6.elim (fun h => .inl (by rw [h] at hk; exact (Option.some.inj hk).symm)) (fun h => .inr (by obtain ⟨b, hb, hle⟩ := h; rw [hb] at hk; have := Option.some.inj hk; omega)))
                  have HC6 := Aside0.mk (show w6.heap[w5.heap.size]? = some (.cells #[.slice Ay y.length cy] 22 (0, 0)) from blk_grown (w := ((w5.alloc (.cells #[.slice Ay y.length cy] 22)).alloc (.cells #[] 22)).drew) (blk_alloc (blk_newg (w := w5) (ob := (.cells #[.slice Ay y.length cy] 22)) (by first | rfl | exact Array.size_push .. | simp)) (.cells #[] 22)) hg6 (fun he => by have h2 : w5.heap.size = w5.heap.size + 1 := Option.some.inj he; omega))
                  clear ho6 hb6 hg6 hat6
                  refine hK.out _ _ (cellLow HZ0.out HB6.out) (fun hHeld => ?_)
                  clear hK K
                  refine norm_ (a' := ?_) ?_ ?_
                  rotate_left
                  · show Act.put _ (some 64) _ = _
                    simp only [Act.put, List.setIfInBounds_toArray, List.set_cons_zero, List.set_cons_succ, i64_w, i32_w]
                    rfl
                  exact norm_ (by simp only [putAll, Act.put, List.setIfInBounds_toArray, List.set_cons_zero, List.set_cons_succ]) (hCont (.slice (some ⟨w5.heap.size + 1, 0, none⟩) 0 0, v64, w5.heap.size) _ ⟨hHeld, ⟨HB6.out, HO6.out, (fun k hk => (HW6.out k hk).elim (fun h => by have := HG6.out; omega) (fun h => Nat.le_trans (below_drew (below_alloc (below_alloc (Below.refl w5.heap.size w5) _) _)).size h)), HC6.out, (by dsimp only; omega), fun k hk => (HW6.out k hk).elim (fun h => by dsimp only; omega) (fun h => by have h3 : w5.heap.size < ((w5.alloc (.cells #[.slice Ay y.length cy] 22)).alloc (.cells #[] 22)).drew.heap.size := (by simp; try omega); dsimp only; omega)⟩⟩)
              rintro ⟨v62, v64, g⟩ w7 ⟨hHeld, hMid⟩
              have HMID := Aside0.mk hMid
              clear hMid
              dsimp only
              refine norm_ (a' := ?_) ?_ ?_
              rotate_left
              · simp only [putAll, Act.put, List.setIfInBounds_toArray, List.set_cons_zero, List.set_cons_succ]
                rfl
              refine one_ (i := 6) (N := some 68) #[true, true, true, true, true, true, true, false] rfl rfl (by kernel_rfl) (by decide) (fun K hK => ?_)
              refine Kd.N_append_rows_step (Kd.slice 5 (Kd.int .u8)) (w0 := w7) 0 (by rfl) (.tmp 64) (.tmp 67) 32 22 (.slice none 0 0) 24 rfl Try.underlying32 infoSl rfl (by decide) (by omega) v64 (now.map numsL) [numsL y] (some ⟨g, 0, none⟩) 1 1 (fun k => (D k ∨ k < W.heap.size) ∨ w5.heap.size ≤ k) (fun k => k = g ∨ k < W.heap.size) rfl rfl ?aO ?aR ?aK ?aF ?aB ?aS ?aL ?_
              (case aO => exact HMID.out.2.1)
              (case aR => exact F_one HMID.out.2.2.2.1 hly _ (.inl rfl) (fun W' hW => CB_footB HCY.out (HR5.out.low.trans (HMID.out.1.mono HR5.out.low.size)) W' (fun k hk hlt => hW k (.inr hk) hlt)))
              (case aK => exact fun k hk => hk.elim (fun h => ⟨.inr (by rw [h]; exact HMID.out.2.2.2.2.1), fun he => HMID.out.2.2.2.2.2 k he.symm h⟩) (fun h => ⟨.inl (.inr h), fun he => by have h1 := HMID.out.2.2.1 k he.symm; have h2 := HR5.out.low.size; omega⟩))
              (case aF => exact fun k hk => .inr (Nat.le_trans HMID.out.1.size hk))
              (case aB => exact Below.refl _ _)
              (case aS => exact Nat.zero_le _)
              (case aL => rw [List.length_map, ← HN14.out]; omega)
              intro v68 w8 ho8 hb8 hg8 hat8
              have HB8 := Aside0.mk (HMID.out.1.trans (Chg.to_below (Chg.of_grown (F := fun k => w5.heap.size ≤ k) hg8 (fun k hk => .inl (HMID.out.2.2.1 k hk))) (fun k hk => hk) HMID.out.1.size))
              have HP8 := Aside0.mk (HR5.out.put HB8.out (N_one ho8))
              clear ho8 hb8 hg8 hat8
              refine hK.out _ _ (cellLow HZ0.out HB8.out) (fun hHeld => ?_)
              clear hK K
              refine norm_ (a' := ?_) ?_ ?_
              rotate_left
              · show Act.put _ (some 68) _ = _
                simp only [Act.put, List.setIfInBounds_toArray, List.set_cons_zero, List.set_cons_succ, i64_w, i32_w]
                rfl
              refine pure_ (i := 7) (N := some 15) (v := ?_) (a' := ?_) #[true, true, true, true, true, true, true, true] rfl rfl (by kernel_rfl) (fun _ _ _ h => h) (Or.inl ⟨by rfl, ?_⟩) ?_ ?_
              rotate_left
              · intro w'
                go_simp
                with_reducible rfl
              rotate_left
              · simp only [Act.put, List.setIfInBounds_toArray, List.set_cons_zero, List.set_cons_succ, i64_w, i32_w]
                rfl
              refine done_ (by kernel_rfl) ?_
              have hz0 := cellLow HZ0.out HB8.out
              have hz1 := cellLow HZ1.out HB8.out
              have hz2 := cellLow HZ2.out HB8.out
              have HFN := Aside0.mk (show (frs now).length ≤ 6160 ∧ now.length ≤ 20 from by
                have hf := frs_small 300 now HSM.out
                have := HN14.out
                omega)
              have HFI := Aside0.mk (stP_fit x 16777216 F (by rw [HX.out]; have := HFN.out.1; omega) HFF.out.1 HFF.out.2)
              have HPX := Aside0.mk (fun thn => Pn.of (now := now) (thn := thn) HX.out (by have := HFN.out.1; omega) (fun b hb => by have := HSM.out b hb; omega))
              cases pk with
              | false =>
                have HA := Aside0.mk (HP8.out.app HCY.out hly (by omega) (n := 3000000) (m := 300) (HFI.out.less (by omega) (by decide)) (by have := HFN.out.2; omega))
                have HPW := Aside0.mk (lapp_power (P := Pn now (now ++ [y])) (x := x) (c := 16777216) HFF.out.1 now y (by omega) (by rw [HX.out]; have := HFN.out.1; omega) (HPX.out _) (fun t => Pn.app (by have := HFN.out.1; omega) (fun b hb => by have := HSM.out b hb; omega) (by omega) HX.out t))
                have HFT := Aside0.mk (fit_lapp (l := ⟨nA, now, false⟩) (b := y) (n := 2000000) (m := 200) (HFI.out.less (by rw [frB_len]; omega) (by decide)))
                go_wp2_with fail
                refine HA.out.mono ?_
                rintro e w9 ⟨rfl, A9, B9, hL9⟩
                rcases HPW.out with ⟨e1, F', f0, f1, e2, e3⟩ | ⟨e1, hcg⟩
                · rw [e1]
                  rw [e2, e3] at hL9
                  have HL9 := Aside0.mk hL9.shift
                  have HF' := Aside0.mk (And.intro f0 f1)
                  clear hL9 e1 e2 e3 f0 f1 hz0 hz1 hz2 HA HPW
                  go_wp2
                  go_roundw
                  case rel =>
                    refine ⟨i + 1, by go_num, hlt, ⟨_, _, _, _, F', now ++ [y], HL9.out, by rw [frs_snoc, ← HX.out]; rfl, ?_, by rw [List.length_append, ← HN14.out]; simp; omega, HF'.out.1, by have := HF'.out.2; have := HFF.out.2; omega⟩⟩
                    intro z hz
                    rcases List.mem_append.1 hz with hz | hz
                    · exact HSM.out z hz
                    · rw [List.mem_singleton.1 hz]; omega
                  case measure => simp [intOf]; omega
                · rw [e1]
                  have HE := Aside0.mk (show CE W w9 p (.slice A14 n14 c14) v68 from ⟨_, _, _, _, _, _, _, _, hL9, hcg, room_lapp _ _ _, HFT.out, by have := HFN.out.2; omega, by rw [List.length_append]; have := HFN.out.2; simp; omega⟩)
                  clear hL9 e1 hcg hz0 hz1 hz2 HA HPW
                  go_wp2
                  go_meet
                  case rel => exact HE
              | true =>
                have HR8 := Aside0.mk (HR5.out.below HB8.out)
                have HFAR8 := Aside0.mk (show ∀ k, (D k ∨ k < W.heap.size) → k < w8.heap.size from fun k hk => Nat.lt_of_lt_of_le (HFAR.out k hk) HB8.out.size)
                have hn14l : n14 ≤ 20 := by have := HFN.out.2; rw [← HN14.out] at this; exact this
                clear hz0
                by_cases hneg : nn < 0
                · have hcm := HNN.out
                  obtain ⟨m, hm⟩ : ∃ m, m = 0 := ⟨_, rfl⟩
                  have HROW := Aside0.mk (show ∀ (w : World) (ok : Nat → Prop) (rs : List By), n14 = rs.length → Kd.F (Kd.slice 5 (Kd.int .u8)) w ok A14 n14 (rs.map numsL) → Kd.F (Kd.slice 5 (Kd.int .u8)) w ok A14 n14 ((rs.drop m).map numsL) from fun w ok rs _ hf => by rw [hm]; exact hf)
                  have hcut := True.intro
                  have HDM := Aside0.mk (show (∀ z ∈ now.drop m, z.length ≤ 300) ∧ (frs (now.drop m)).length ≤ 6160 ∧ (now.drop m).length ≤ 20 from by
                    have h1 : ∀ z ∈ now.drop m, z.length ≤ 300 := fun z hz => HSM.out z (List.mem_of_mem_drop hz)
                    have h2 := frs_small 300 _ h1
                    have h3 : (now.drop m).length ≤ 20 := by rw [List.length_drop]; have := HFN.out.2; omega
                    exact ⟨h1, by omega, h3⟩)
                  have HDI := Aside0.mk (show (now.drop m).length ≤ i from by rw [List.length_drop, ← HN14.out]; omega)
                  clear hm
                  go_wp2_with (first | ((with_reducible refine gate_dst (N := 83) rfl ?_); refine Kd.R_lit (Kd.slice 5 (Kd.int .u8)) _ 22 ?hg (N := 83) ?hd (xs := ([] : List (List Int))) (inner := []) (ok := fun k => w8.heap.size ≤ k) (okp := fun k => w8.heap.size ≤ k) ?hr ?hp (fun _ hk => hk) (Nat.le_refl _) (Below.refl _ _) (Nat.le_refl _) (by simp) ?_; (case hd => rfl); (case hg => rfl); (case hr => first | (go_simp; done) | (go_simp; rfl)); (case hp => exact (Reps.none _ _)); intro v10 w10 ho10 hb10 hg10 hnew10; have HO10 := Aside0.mk ho10; have HB10 := Aside0.mk hb10; have HW10 := Aside0.mk hnew10; clear ho10 hb10 hg10 hnew10) | ((with_reducible refine gate_builtin (b := .append) (xs := #[.tmp 83, .tmp 89]) rfl ?_); at_builtin; refine Kd.N_append_rows (Kd.slice 5 (Kd.int .u8)) (w0 := w10) 0 rfl (.tmp 83) (.tmp 89) 32 22 (.slice none 0 0) 24 rfl Try.underlying32 infoSl rfl (by decide) (by omega) v10 ([] : List (List Int)) ((now.drop m).map numsL) A14 n14 c14 (fun k => (D k ∨ k < W.heap.size) ∨ w8.heap.size ≤ k) (fun k => D k ∨ k < W.heap.size) rfl rfl ?aO ?aR ?aK ?aF ?aB ?aS ?aL ?_; (case aO => exact Kd.N_mono (Kd.R_N (Kd.R_lower HO10.out (Nat.zero_le _))) (fun k hk => .inr hk)); (case aR => exact HROW.out _ _ now HN14.out (Kd.N_F (Kd.N_below HR8.out.n14 HB10.out))); (case aK => exact fun k hk => ⟨.inl hk, fun he => by obtain ⟨b, hb, hle⟩ := HW10.out; rw [hb] at he; have h1 := Option.some.inj he; have h2 := HFAR8.out k hk; omega⟩); (case aF => exact fun k hk => .inr (Nat.le_trans HB10.out.size hk)); (case aB => exact Below.refl _ _); (case aS => exact Nat.zero_le _); (case aL => show (0 + n14) * 24 ≤ _; omega); intro v11 w11 ho11 hb11 hg11 hat11; have HO11 := Aside0.mk (show NB w11 (fun k => (D k ∨ k < W.heap.size) ∨ w8.heap.size ≤ k) v11 (now.drop m) from ho11); have HB11 := Aside0.mk (HB10.out.trans (Chg.to_below (Chg.of_grown (F := fun k => w8.heap.size ≤ k) hg11 (fun k hk => .inl (by obtain ⟨b, hb, hle⟩ := HW10.out; rw [hb] at hk; have h1 := Option.some.inj hk; omega))) (fun k hk => hk) HB10.out.size)); have HP11 := Aside0.mk (HR8.out.put HB11.out HO11.out); obtain ⟨A15, n15, c15, e15⟩ : ∃ A n c, v11 = .slice A n c := (by obtain ⟨A, c, e⟩ := Kd.N_slice ho11; exact ⟨A, _, c, e⟩); subst e15; clear ho11 hb11 hg11 hat11))
                  have HA := Aside0.mk (HP11.out.com (n := 3000000) (m := 300) (HFI.out.less (by have := HDM.out.2.1; omega) (by decide)) (by have := HDM.out.2.2; omega) (by have := HDM.out.2.1; omega))
                  have HPW := Aside0.mk (lcom_power (P := Pn now (now.drop m)) (x := x) (c := 16777216) HFF.out.1 now (now.drop m) (fun b hb => by have := HDM.out.1 b hb; omega) (by rw [HX.out]; have := HFN.out.1; have := HDM.out.2.1; omega) (HPX.out _) (Pn.lay (by have := HDM.out.2.1; omega) (fun b hb => by have := HDM.out.1 b hb; omega)))
                  have HFT := Aside0.mk (fit_lcom (l := ⟨nA, now, false⟩) (rs := now.drop m) (n := 2000000) (m := 200) (HFI.out.less (by have := HDM.out.2.1; omega) (by decide)))
                  refine HA.out.mono ?_
                  rintro e w12 ⟨rfl, A12, B12, hL12⟩
                  rcases HPW.out with ⟨e1, F', f0, f1, e2, e3⟩ | ⟨e1, hcg⟩
                  · rw [e1]
                    rw [e2, e3] at hL12
                    have HL12 := Aside0.mk hL12.shift
                    have HF' := Aside0.mk (And.intro f0 f1)
                    clear hL12 e1 e2 e3 f0 f1 hz1 hz2 HA HPW hcut
                    go_wp2
                    go_roundw
                    case rel => exact ⟨i + 1, by go_num, hlt, ⟨_, _, _, _, F', now.drop m, HL12.out, rfl, HDM.out.1, Nat.le_succ_of_le HDI.out, HF'.out.1, by have := HF'.out.2; have := HFF.out.2; omega⟩⟩
                    case measure => simp [intOf]; omega
                  · rw [e1]
                    have HE := Aside0.mk (show CE W w12 p (.slice A14 n14 c14) (.slice A15 n15 c15) from ⟨_, _, _, _, _, _, _, _, hL12, hcg, room_lcom _ _ _, HFT.out, by have := HFN.out.2; omega, by have := HDM.out.2.2; omega⟩)
                    clear hL12 e1 hcg hz1 hz2 HA HPW hcut
                    go_wp2
                    go_meet
                    case rel => exact HE
                · by_cases hov : (n14 : Int) < nn
                  · skip
                    obtain ⟨m, hm⟩ : ∃ m, m = 0 := ⟨_, rfl⟩
                    have HROW := Aside0.mk (show ∀ (w : World) (ok : Nat → Prop) (rs : List By), n14 = rs.length → Kd.F (Kd.slice 5 (Kd.int .u8)) w ok A14 n14 (rs.map numsL) → Kd.F (Kd.slice 5 (Kd.int .u8)) w ok A14 n14 ((rs.drop m).map numsL) from fun w ok rs _ hf => by rw [hm]; exact hf)
                    have hcut := True.intro
                    have HDM := Aside0.mk (show (∀ z ∈ now.drop m, z.length ≤ 300) ∧ (frs (now.drop m)).length ≤ 6160 ∧ (now.drop m).length ≤ 20 from by
                      have h1 : ∀ z ∈ now.drop m, z.length ≤ 300 := fun z hz => HSM.out z (List.mem_of_mem_drop hz)
                      have h2 := frs_small 300 _ h1
                      have h3 : (now.drop m).length ≤ 20 := by rw [List.length_drop]; have := HFN.out.2; omega
                      exact ⟨h1, by omega, h3⟩)
                    have HDI := Aside0.mk (show (now.drop m).length ≤ i from by rw [List.length_drop, ← HN14.out]; omega)
                    clear hm
                    go_wp2_with (first | ((with_reducible refine gate_dst (N := 83) rfl ?_); refine Kd.R_lit (Kd.slice 5 (Kd.int .u8)) _ 22 ?hg (N := 83) ?hd (xs := ([] : List (List Int))) (inner := []) (ok := fun k => w8.heap.size ≤ k) (okp := fun k => w8.heap.size ≤ k) ?hr ?hp (fun _ hk => hk) (Nat.le_refl _) (Below.refl _ _) (Nat.le_refl _) (by simp) ?_; (case hd => rfl); (case hg => rfl); (case hr => first | (go_simp; done) | (go_simp; rfl)); (case hp => exact (Reps.none _ _)); intro v10 w10 ho10 hb10 hg10 hnew10; have HO10 := Aside0.mk ho10; have HB10 := Aside0.mk hb10; have HW10 := Aside0.mk hnew10; clear ho10 hb10 hg10 hnew10) | ((with_reducible refine gate_builtin (b := .append) (xs := #[.tmp 83, .tmp 89]) rfl ?_); at_builtin; refine Kd.N_append_rows (Kd.slice 5 (Kd.int .u8)) (w0 := w10) 0 rfl (.tmp 83) (.tmp 89) 32 22 (.slice none 0 0) 24 rfl Try.underlying32 infoSl rfl (by decide) (by omega) v10 ([] : List (List Int)) ((now.drop m).map numsL) A14 n14 c14 (fun k => (D k ∨ k < W.heap.size) ∨ w8.heap.size ≤ k) (fun k => D k ∨ k < W.heap.size) rfl rfl ?aO ?aR ?aK ?aF ?aB ?aS ?aL ?_; (case aO => exact Kd.N_mono (Kd.R_N (Kd.R_lower HO10.out (Nat.zero_le _))) (fun k hk => .inr hk)); (case aR => exact HROW.out _ _ now HN14.out (Kd.N_F (Kd.N_below HR8.out.n14 HB10.out))); (case aK => exact fun k hk => ⟨.inl hk, fun he => by obtain ⟨b, hb, hle⟩ := HW10.out; rw [hb] at he; have h1 := Option.some.inj he; have h2 := HFAR8.out k hk; omega⟩); (case aF => exact fun k hk => .inr (Nat.le_trans HB10.out.size hk)); (case aB => exact Below.refl _ _); (case aS => exact Nat.zero_le _); (case aL => show (0 + n14) * 24 ≤ _; omega); intro v11 w11 ho11 hb11 hg11 hat11; have HO11 := Aside0.mk (show NB w11 (fun k => (D k ∨ k < W.heap.size) ∨ w8.heap.size ≤ k) v11 (now.drop m) from ho11); have HB11 := Aside0.mk (HB10.out.trans (Chg.to_below (Chg.of_grown (F := fun k => w8.heap.size ≤ k) hg11 (fun k hk => .inl (by obtain ⟨b, hb, hle⟩ := HW10.out; rw [hb] at hk; have h1 := Option.some.inj hk; omega))) (fun k hk => hk) HB10.out.size)); have HP11 := Aside0.mk (HR8.out.put HB11.out HO11.out); obtain ⟨A15, n15, c15, e15⟩ : ∃ A n c, v11 = .slice A n c := (by obtain ⟨A, c, e⟩ := Kd.N_slice ho11; exact ⟨A, _, c, e⟩); subst e15; clear ho11 hb11 hg11 hat11))
                    have HA := Aside0.mk (HP11.out.com (n := 3000000) (m := 300) (HFI.out.less (by have := HDM.out.2.1; omega) (by decide)) (by have := HDM.out.2.2; omega) (by have := HDM.out.2.1; omega))
                    have HPW := Aside0.mk (lcom_power (P := Pn now (now.drop m)) (x := x) (c := 16777216) HFF.out.1 now (now.drop m) (fun b hb => by have := HDM.out.1 b hb; omega) (by rw [HX.out]; have := HFN.out.1; have := HDM.out.2.1; omega) (HPX.out _) (Pn.lay (by have := HDM.out.2.1; omega) (fun b hb => by have := HDM.out.1 b hb; omega)))
                    have HFT := Aside0.mk (fit_lcom (l := ⟨nA, now, false⟩) (rs := now.drop m) (n := 2000000) (m := 200) (HFI.out.less (by have := HDM.out.2.1; omega) (by decide)))
                    refine HA.out.mono ?_
                    rintro e w12 ⟨rfl, A12, B12, hL12⟩
                    rcases HPW.out with ⟨e1, F', f0, f1, e2, e3⟩ | ⟨e1, hcg⟩
                    · rw [e1]
                      rw [e2, e3] at hL12
                      have HL12 := Aside0.mk hL12.shift
                      have HF' := Aside0.mk (And.intro f0 f1)
                      clear hL12 e1 e2 e3 f0 f1 hz1 hz2 HA HPW hcut
                      go_wp2
                      go_roundw
                      case rel => exact ⟨i + 1, by go_num, hlt, ⟨_, _, _, _, F', now.drop m, HL12.out, rfl, HDM.out.1, Nat.le_succ_of_le HDI.out, HF'.out.1, by have := HF'.out.2; have := HFF.out.2; omega⟩⟩
                      case measure => simp [intOf]; omega
                    · rw [e1]
                      have HE := Aside0.mk (show CE W w12 p (.slice A14 n14 c14) (.slice A15 n15 c15) from ⟨_, _, _, _, _, _, _, _, hL12, hcg, room_lcom _ _ _, HFT.out, by have := HFN.out.2; omega, by have := HDM.out.2.2; omega⟩)
                      clear hL12 e1 hcg hz1 hz2 HA HPW hcut
                      go_wp2
                      go_meet
                      case rel => exact HE
                  · obtain ⟨kk, rfl⟩ : ∃ k : Nat, nn = k := ⟨nn.toNat, by omega⟩
                    have hkk : kk ≤ n14 := by omega
                    obtain ⟨m, hm⟩ : ∃ m, m = n14 - kk := ⟨_, rfl⟩
                    obtain ⟨As, ns, cs, hns, hcut, hrow⟩ := cut_recs A14 n14 c14 m ((n14 : Int) - kk) (by omega) (by omega) hl14
                    have HROW := Aside0.mk hrow
                    clear hrow
                    have hnsl : ns ≤ 20 := by omega
                    have HDM := Aside0.mk (show (∀ z ∈ now.drop m, z.length ≤ 300) ∧ (frs (now.drop m)).length ≤ 6160 ∧ (now.drop m).length ≤ 20 from by
                      have h1 : ∀ z ∈ now.drop m, z.length ≤ 300 := fun z hz => HSM.out z (List.mem_of_mem_drop hz)
                      have h2 := frs_small 300 _ h1
                      have h3 : (now.drop m).length ≤ 20 := by rw [List.length_drop]; have := HFN.out.2; omega
                      exact ⟨h1, by omega, h3⟩)
                    have HDI := Aside0.mk (show (now.drop m).length ≤ i from by rw [List.length_drop, ← HN14.out]; omega)
                    clear hns
                    clear hm
                    go_wp2_with (first | ((with_reducible refine gate_dst (N := 83) rfl ?_); refine Kd.R_lit (Kd.slice 5 (Kd.int .u8)) _ 22 ?hg (N := 83) ?hd (xs := ([] : List (List Int))) (inner := []) (ok := fun k => w8.heap.size ≤ k) (okp := fun k => w8.heap.size ≤ k) ?hr ?hp (fun _ hk => hk) (Nat.le_refl _) (Below.refl _ _) (Nat.le_refl _) (by simp) ?_; (case hd => rfl); (case hg => rfl); (case hr => first | (go_simp; done) | (go_simp; rfl)); (case hp => exact (Reps.none _ _)); intro v10 w10 ho10 hb10 hg10 hnew10; have HO10 := Aside0.mk ho10; have HB10 := Aside0.mk hb10; have HW10 := Aside0.mk hnew10; clear ho10 hb10 hg10 hnew10) | ((with_reducible refine gate_builtin (b := .append) (xs := #[.tmp 83, .tmp 89]) rfl ?_); at_builtin; refine Kd.N_append_rows (Kd.slice 5 (Kd.int .u8)) (w0 := w10) 0 rfl (.tmp 83) (.tmp 89) 32 22 (.slice none 0 0) 24 rfl Try.underlying32 infoSl rfl (by decide) (by omega) v10 ([] : List (List Int)) ((now.drop m).map numsL) As ns cs (fun k => (D k ∨ k < W.heap.size) ∨ w8.heap.size ≤ k) (fun k => D k ∨ k < W.heap.size) rfl rfl ?aO ?aR ?aK ?aF ?aB ?aS ?aL ?_; (case aO => exact Kd.N_mono (Kd.R_N (Kd.R_lower HO10.out (Nat.zero_le _))) (fun k hk => .inr hk)); (case aR => exact HROW.out _ _ now HN14.out (Kd.N_F (Kd.N_below HR8.out.n14 HB10.out))); (case aK => exact fun k hk => ⟨.inl hk, fun he => by obtain ⟨b, hb, hle⟩ := HW10.out; rw [hb] at he; have h1 := Option.some.inj he; have h2 := HFAR8.out k hk; omega⟩); (case aF => exact fun k hk => .inr (Nat.le_trans HB10.out.size hk)); (case aB => exact Below.refl _ _); (case aS => exact Nat.zero_le _); (case aL => show (0 + ns) * 24 ≤ _; omega); intro v11 w11 ho11 hb11 hg11 hat11; have HO11 := Aside0.mk (show NB w11 (fun k => (D k ∨ k < W.heap.size) ∨ w8.heap.size ≤ k) v11 (now.drop m) from ho11); have HB11 := Aside0.mk (HB10.out.trans (Chg.to_below (Chg.of_grown (F := fun k => w8.heap.size ≤ k) hg11 (fun k hk => .inl (by obtain ⟨b, hb, hle⟩ := HW10.out; rw [hb] at hk; have h1 := Option.some.inj hk; omega))) (fun k hk => hk) HB10.out.size)); have HP11 := Aside0.mk (HR8.out.put HB11.out HO11.out); obtain ⟨A15, n15, c15, e15⟩ : ∃ A n c, v11 = .slice A n c := (by obtain ⟨A, c, e⟩ := Kd.N_slice ho11; exact ⟨A, _, c, e⟩); subst e15; clear ho11 hb11 hg11 hat11))
                    have HA := Aside0.mk (HP11.out.com (n := 3000000) (m := 300) (HFI.out.less (by have := HDM.out.2.1; omega) (by decide)) (by have := HDM.out.2.2; omega) (by have := HDM.out.2.1; omega))
                    have HPW := Aside0.mk (lcom_power (P := Pn now (now.drop m)) (x := x) (c := 16777216) HFF.out.1 now (now.drop m) (fun b hb => by have := HDM.out.1 b hb; omega) (by rw [HX.out]; have := HFN.out.1; have := HDM.out.2.1; omega) (HPX.out _) (Pn.lay (by have := HDM.out.2.1; omega) (fun b hb => by have := HDM.out.1 b hb; omega)))
                    have HFT := Aside0.mk (fit_lcom (l := ⟨nA, now, false⟩) (rs := now.drop m) (n := 2000000) (m := 200) (HFI.out.less (by have := HDM.out.2.1; omega) (by decide)))
                    refine HA.out.mono ?_
                    rintro e w12 ⟨rfl, A12, B12, hL12⟩
                    rcases HPW.out with ⟨e1, F', f0, f1, e2, e3⟩ | ⟨e1, hcg⟩
                    · rw [e1]
                      rw [e2, e3] at hL12
                      have HL12 := Aside0.mk hL12.shift
                      have HF' := Aside0.mk (And.intro f0 f1)
                      clear hL12 e1 e2 e3 f0 f1 hz1 hz2 HA HPW hcut
                      go_wp2
                      go_roundw
                      case rel => exact ⟨i + 1, by go_num, hlt, ⟨_, _, _, _, F', now.drop m, HL12.out, rfl, HDM.out.1, Nat.le_succ_of_le HDI.out, HF'.out.1, by have := HF'.out.2; have := HFF.out.2; omega⟩⟩
                      case measure => simp [intOf]; omega
                    · rw [e1]
                      have HE := Aside0.mk (show CE W w12 p (.slice A14 n14 c14) (.slice A15 n15 c15) from ⟨_, _, _, _, _, _, _, _, hL12, hcg, room_lcom _ _ _, HFT.out, by have := HFN.out.2; omega, by have := HDM.out.2.2; omega⟩)
                      clear hL12 e1 hcg hz1 hz2 HA HPW hcut
                      go_wp2
                      go_meet
                      case rel => exact HE
          · obtain rfl : i = al.length := by omega
            have HE := Aside0.mk (HI.out.ends (by omega))
            go_wp2
            go_meet
            case rel => exact HE
      case rest =>
        obtain ⟨A, B, D, q1, l1, st, now, thn, hL, hcg, hroom, hfit, hn1, hn2⟩ := hcut.out
        obtain ⟨A14, c14, e14, hl14, hC14⟩ := NB_slice hL.n14
        obtain ⟨n14, hn14⟩ : ∃ n, n = now.length := ⟨_, rfl⟩
        rw [← hn14] at e14 hl14
        subst e14
        obtain ⟨A15, c15, e15, hl15, hC15⟩ := NB_slice hL.n15
        obtain ⟨n15, hn15⟩ : ∃ n, n = thn.length := ⟨_, rfl⟩
        rw [← hn15] at e15 hl15
        subst e15
        have HN14 := Aside0.mk hn14
        have HN15 := Aside0.mk hn15
        have HSZ := Aside0.mk (And.intro hn1 hn2)
        have HCG0 := Aside0.mk (fun (w : World) (A' B' : Nat → Prop) (h : LT W w A' B' D q1 p l1 (crashS st keep torn) (.slice A14 n14 c14) now (.slice A15 n15 c15) thn) => GI.of (i := 0) h hcg hroom (hfit.less (by decide) (by decide)))
        have HCR := Aside0.mk (hL.crash hfit.ok keep torn)
        clear hcut hL hcg hroom hfit hn1 hn2 hC14 hC15 hn14 hn15
        go_wp2_with fail
        refine HCR.out.mono ?_
        rintro e w1 ⟨rfl, A1, B1, hL1⟩
        have HG0 := Aside0.mk (HCG0.out _ _ _ hL1)
        clear hL1 HCR HCG0
        go_wp2
        go_loopw [20] (fun v20 wr => ∃ i : Nat, v20 = .int .i64 i ∧ i ≤ gs.length ∧ Aside0 (GI W wr D p q1 l1 now thn (.slice A14 n14 c14) (.slice A15 n15 c15) i)) (fun v20 _ => gs.length - (intOf v20).toNat)
        case atStart => exact ⟨0, rfl, Nat.zero_le _, HG0⟩
        case round =>
          obtain ⟨i, rfl, hi, HI⟩ := hrel
          obtain ⟨A2, B2, o, X, N, hR, hP, hf⟩ := HI.out
          have HP := Aside0.mk hP
          have HR := Aside0.mk hR
          have HFT := Aside0.mk hf
          clear HI hR hP hf
          by_cases hlt : i < gs.length
          · obtain ⟨ad, rfl⟩ : ∃ ad, AG = some ad := by
              obtain ⟨_, _, h⟩ := HG.out
              obtain ⟨ad, e, _⟩ := h (by omega)
              exact ⟨ad, e⟩
            have hz := cellLow (cell_rd' HG.out i hlt) HR.out.low
            have hgb := HGB.out _ (List.getElem_mem hlt)
            rw [show gs[i] = rd gs i from by unfold rd; rw [Int.toNat_natCast, List.getD_eq_getElem?_getD, List.getElem?_eq_getElem hlt]; rfl] at hgb
            obtain ⟨g, hg'⟩ : ∃ g, g = rd gs i := ⟨_, rfl⟩
            rw [← hg'] at hz hgb
            have HZ := Aside0.mk hz
            have HFU := Aside0.mk (fun n => HR.out.fuse n)
            clear hg'
            go_wp2_with fail
            refine (HFU.out (g % 8)).mono ?_
            rintro e w3 ⟨rfl, A3, B3, hL3⟩
            have HOP := Aside0.mk (hL3.opn (stC_g1 o X N 16777216 (g % 8)) HP.out.1 (n := 200000 * (10 - i) - 100000) (m := 20 * (10 - i) - 5) ((HFT.out.fuse (k := g % 8) (by omega)).less (by omega) (by omega)))
            clear hL3 HFU hz
            go_wp2_with fail
            refine HOP.out.mono ?_
            rintro e w4 ⟨⟨vo, rfl⟩, A4, B4, hL4⟩
            have hok4 := (fit_op (n := 200000 * (10 - i) - 100000) (m := 20 * (10 - i) - 3) (stC_g1 o X N 16777216 (g % 8)) HP.out.1 ((HFT.out.fuse (k := g % 8) (by omega)).less (by omega) (by omega)))
            have HF4 := Aside0.mk hok4
            have HR4 := Aside0.mk hL4
            have HZ4 := Aside0.mk (cellLow (cell_rd' HG.out i hlt) hL4.low)
            have hzz : w4.cell? (ad.add i) = some (.int .u8 g) := by have := HZ4.out; rw [this]; have h2 := HZ.out; rw [cellLow (cell_rd' HG.out i hlt) HR.out.low] at h2; exact h2
            have HZZ := Aside0.mk hzz
            have hgi : (i : Int) < gs.length := by omega
            have HCR := Aside0.mk (fun k t => (HR4.out.below (below_drew (Below.refl w4.heap.size w4))).crash HF4.out.ok k t)
            clear hL4 hok4 hzz HOP
            go_wp2
            refine start_ (n := 16) (S := fun w' => w'.cell? (ad.add i) = some (.int .u8 g)) (ds := [15]) #[false, false, false, false, false, false, false, false, false, false, false, false, false, false, false, false] (by kernel_rfl) rfl rfl (cellLow HZZ.out (below_drew (Below.refl _ _))) (fun hHeld => ?_)
            refine pure_ (i := 0) (N := some 123) (v := ?_) (a' := ?_) #[true, false, false, false, false, false, false, false, false, false, false, false, false, false, false, false] rfl rfl (by kernel_rfl) (fun _ _ _ h => h) (Or.inl ⟨by rfl, ?_⟩) ?_ ?_
            rotate_left
            · intro w'
              go_simp
              with_reducible rfl
            rotate_left
            · simp only [Act.put, List.setIfInBounds_toArray, List.set_cons_zero, List.set_cons_succ, i64_w, i32_w]
              rfl
            refine pure_ (i := 1) (N := some 124) (v := ?_) (a' := ?_) #[true, true, false, false, false, false, false, false, false, false, false, false, false, false, false, false] rfl rfl (by kernel_rfl) (fun _ _ _ h => h) (Or.inl ⟨by rfl, ?_⟩) ?_ ?_
            rotate_left
            · intro w'
              go_simp
              with_reducible rfl
            rotate_left
            · simp only [Act.put, List.setIfInBounds_toArray, List.set_cons_zero, List.set_cons_succ, i64_w, i32_w]
              rfl
            refine pure_ (i := 2) (N := some 125) (v := ?_) (a' := ?_) #[true, true, true, false, false, false, false, false, false, false, false, false, false, false, false, false] rfl rfl (by kernel_rfl) (fun _ _ _ h => h) (Or.inl ⟨by rfl, ?_⟩) ?_ ?_
            rotate_left
            · intro w'
              go_simp
              with_reducible rfl
            rotate_left
            · simp only [Act.put, List.setIfInBounds_toArray, List.set_cons_zero, List.set_cons_succ, i64_w, i32_w]
              rfl
            refine pure_ (i := 3) (N := some 126) (v := ?_) (a' := ?_) #[true, true, true, true, false, false, false, false, false, false, false, false, false, false, false, false] rfl rfl (by kernel_rfl) (fun _ _ _ h => h) (Or.inl ⟨by rfl, ?_⟩) ?_ ?_
            rotate_left
            · intro w'
              go_simp
              with_reducible rfl
            rotate_left
            · simp only [Act.put, List.setIfInBounds_toArray, List.set_cons_zero, List.set_cons_succ, i64_w, i32_w]
              rfl
            refine pure_ (i := 8) (N := some 131) (v := ?_) (a' := ?_) #[true, true, true, true, false, false, false, false, true, false, false, false, false, false, false, false] rfl rfl (by kernel_rfl) (fun _ _ _ h => h) (Or.inl ⟨by rfl, ?_⟩) ?_ ?_
            rotate_left
            · intro w'
              go_simp
              with_reducible rfl
            rotate_left
            · simp only [Act.put, List.setIfInBounds_toArray, List.set_cons_zero, List.set_cons_succ, i64_w, i32_w]
              rfl
            refine pure_ (i := 9) (N := some 132) (v := ?_) (a' := ?_) #[true, true, true, true, false, false, false, false, true, true, false, false, false, false, false, false] rfl rfl (by kernel_rfl) (fun _ _ _ h => h) (Or.inl ⟨by rfl, ?_⟩) ?_ ?_
            rotate_left
            · intro w'
              go_simp
              with_reducible rfl
            rotate_left
            · simp only [Act.put, List.setIfInBounds_toArray, List.set_cons_zero, List.set_cons_succ, i64_w, i32_w]
              rfl
            refine pure_ (i := 10) (N := some 133) (v := ?_) (a' := ?_) #[true, true, true, true, false, false, false, false, true, true, true, false, false, false, false, false] rfl rfl (by kernel_rfl) (fun _ _ _ h => h) (Or.inl ⟨by rfl, ?_⟩) ?_ ?_
            rotate_left
            · intro w'
              go_simp
              with_reducible rfl
            rotate_left
            · simp only [Act.put, List.setIfInBounds_toArray, List.set_cons_zero, List.set_cons_succ, i64_w, i32_w]
              rfl
            refine take_ (i := 4) (N := some 127) (v := ?_) (a' := ?_) #[true, true, true, true, true, false, false, false, true, true, true, false, false, false, false, false] rfl rfl (by kernel_rfl) (fun _ _ _ h => h) (Or.inl ⟨by rfl, ?_⟩) hHeld ?_ ?_
            rotate_left
            · intro w' s0
              go_simp
              with_reducible rfl
            rotate_left
            · simp only [Act.put, List.setIfInBounds_toArray, List.set_cons_zero, List.set_cons_succ, i64_w, i32_w]
              rfl
            refine pure_ (i := 5) (N := some 128) (v := ?_) (a' := ?_) #[true, true, true, true, true, true, false, false, true, true, true, false, false, false, false, false] rfl rfl (by kernel_rfl) (fun _ _ _ h => h) (Or.inl ⟨by rfl, ?_⟩) ?_ ?_
            rotate_left
            · intro w'
              go_simp
              with_reducible rfl
            rotate_left
            · simp only [Act.put, List.setIfInBounds_toArray, List.set_cons_zero, List.set_cons_succ, i64_w, i32_w]
              rfl
            refine pure_ (i := 6) (N := some 129) (v := ?_) (a' := ?_) #[true, true, true, true, true, true, true, false, true, true, true, false, false, false, false, false] rfl rfl (by kernel_rfl) (fun _ _ _ h => h) (Or.inl ⟨by rfl, ?_⟩) ?_ ?_
            rotate_left
            · intro w'
              go_simp
              with_reducible rfl
            rotate_left
            · simp only [Act.put, List.setIfInBounds_toArray, List.set_cons_zero, List.set_cons_succ, i64_w, i32_w]
              rfl
            refine pure_ (i := 7) (N := some 130) (v := ?_) (a' := ?_) #[true, true, true, true, true, true, true, true, true, true, true, false, false, false, false, false] rfl rfl (by kernel_rfl) (fun _ _ _ h => h) (Or.inl ⟨by rfl, ?_⟩) ?_ ?_
            rotate_left
            · intro w'
              go_simp
              with_reducible rfl
            rotate_left
            · simp only [Act.put, List.setIfInBounds_toArray, List.set_cons_zero, List.set_cons_succ, i64_w, i32_w]
              rfl
            refine take_ (i := 11) (N := some 134) (v := ?_) (a' := ?_) #[true, true, true, true, true, true, true, true, true, true, true, true, false, false, false, false] rfl rfl (by kernel_rfl) (fun _ _ _ h => h) (Or.inl ⟨by rfl, ?_⟩) hHeld ?_ ?_
            rotate_left
            · intro w' s0
              go_simp
              with_reducible rfl
            rotate_left
            · simp only [Act.put, List.setIfInBounds_toArray, List.set_cons_zero, List.set_cons_succ, i64_w, i32_w]
              rfl
            refine pure_ (i := 12) (N := some 135) (v := ?_) (a' := ?_) #[true, true, true, true, true, true, true, true, true, true, true, true, true, false, false, false] rfl rfl (by kernel_rfl) (fun _ _ _ h => h) (Or.inl ⟨by rfl, ?_⟩) ?_ ?_
            rotate_left
            · intro w'
              go_simp
              with_reducible rfl
            rotate_left
            · simp only [Act.put, List.setIfInBounds_toArray, List.set_cons_zero, List.set_cons_succ, i64_w, i32_w]
              rfl
            refine pure_ (i := 13) (N := some 136) (v := ?_) (a' := ?_) #[true, true, true, true, true, true, true, true, true, true, true, true, true, true, false, false] rfl rfl (by kernel_rfl) (fun _ _ _ h => h) (Or.inl ⟨by rfl, ?_⟩) ?_ ?_
            rotate_left
            · intro w'
              go_simp
              with_reducible rfl
            rotate_left
            · simp only [Act.put, List.setIfInBounds_toArray, List.set_cons_zero, List.set_cons_succ, i64_w, i32_w]
              rfl
            refine pure_ (i := 14) (N := some 137) (v := ?_) (a' := ?_) #[true, true, true, true, true, true, true, true, true, true, true, true, true, true, true, false] rfl rfl (by kernel_rfl) (fun _ _ _ h => h) (Or.inl ⟨by rfl, ?_⟩) ?_ ?_
            rotate_left
            · intro w'
              go_simp
              with_reducible rfl
            rotate_left
            · simp only [Act.put, List.setIfInBounds_toArray, List.set_cons_zero, List.set_cons_succ, i64_w, i32_w]
              rfl
            refine last_ (i := 15) (N := some 138) #[true, true, true, true, true, true, true, true, true, true, true, true, true, true, true, true] rfl rfl (by kernel_rfl) (by decide) (fun K hK => ?_)
            refine goes_ Try.func22 (by kernel_rfl) rfl #[.pointer (some ⟨p, 0, none⟩), .int .i64 (wrap64 ((IntKind.u8.wrap (g.tdiv 8)).tmod 4)), .int .i64 (wrap64 (wrap64 (IntKind.u8.wrap (g.tdiv 32)) - 1))] (by rfl) rfl rfl (by simp only [List.map_toArray, List.map_cons, List.map_nil]; rfl) ?_
            with_reducible refine (HCR.out (wrap64 ((IntKind.u8.wrap (g.tdiv 8)).tmod 4)) (wrap64 (wrap64 (IntKind.u8.wrap (g.tdiv 32)) - 1))).mono ?_
            rintro e w5 ⟨rfl, A5, B5, hL5⟩
            refine ⟨_, rfl, ?_⟩
            have HL5 := Aside0.mk hL5
            clear hL5
            refine hK.out _ _ ?_
            clear hK K
            refine norm_ (a' := ?_) ?_ ?_
            rotate_left
            · show Act.put _ (some 138) _ = _
              simp only [Act.put, List.setIfInBounds_toArray, List.set_cons_zero, List.set_cons_succ, i64_w, i32_w]
              rfl
            refine done_ (by kernel_rfl) ?_
            have HI5 := Aside0.mk (show GI W w5 D p q1 l1 now thn (.slice A14 n14 c14) (.slice A15 n15 c15) (i + 1) from GI.of HL5.out (again_cg HP.out) (by rw [room_op]; rfl) (HF4.out.less (by omega) (by omega)))
            clear HCR HZ4 HZZ
            go_wp2
            go_roundw
            case rel => exact ⟨i + 1, by go_num, hlt, HI5⟩
            case measure => simp [intOf]; omega
          · obtain rfl : i = gs.length := by omega
            have HOP := Aside0.mk (HR.out.last HP.out (n := 200000 * (10 - gs.length) - 100000) (m := 20 * (10 - gs.length) - 5) (HFT.out.less (by omega) (by omega)))
            go_wp2_with fail
            refine HOP.out.mono ?_
            rintro e w5 ⟨q2, rfl, A5, B5, Bq, st5, hL5, hLg⟩
            have HL5 := Aside0.mk hL5
            have HLG := Aside0.mk hLg
            clear hL5 hLg HOP
            go_wp2_with fail
            refine (answers_calls _).mono ?_
            rintro e w6 ⟨rfl, hb6⟩
            have HL6 := Aside0.mk (HL5.out.below hb6)
            have HLG6 := Aside0.mk (HLG.out.below hb6)
            have HSP := Aside0.mk (show (splB (X.getD [])).length ≤ 30 ∧ ∀ z ∈ splB (X.getD []), z.length ≤ 262144 from ⟨HP.out.2.elim (fun h => by rw [h]; exact HSZ.out.1) (fun h => by rw [h]; exact HSZ.out.2), splB_few _⟩)
            have HRC := Aside0.mk (fun (w : World) (h : Below w6.heap.size w6 w) => recs_calls w Bq q2 p _ (HLG6.out.below h) (by show (splB (X.getD [])).length ≤ _; have := HSP.out.1; omega) (fun z hz => by have := HSP.out.2 z hz; omega))
            clear hb6
            go_wp2_with fail
            refine (HRC.out _ (Below.refl _ _)).mono ?_
            rintro e w7 ⟨v7, rfl, hn7, hb7⟩
            obtain ⟨A7, c7, rfl, hl7, hC7⟩ := NB_slice hn7
            have HL7 := Aside0.mk (HL6.out.below hb7)
            have HB7 := Aside0.mk hb7
            obtain ⟨A14', c14', e14, hl14', hC14⟩ := NB_slice HL7.out.n14
            rw [← HN14.out] at e14
            injection e14 with e14 e14' e14''
            subst e14 e14''
            have HS := Aside0.mk (sameAll_calls w7 A7 A14 c7 c14 (splB (X.getD [])) now hC7 hC14 hl7 hl14' (by have := HSP.out.1; omega) (fun z hz => by have := HSP.out.2 z hz; omega))
            rw [← HN14.out] at HS
            clear hn7 hb7 hC7 hC14
            by_cases hsame : splB (X.getD []) = now
            · have hdec : decide (splB (X.getD []) = now) = true := decide_eq_true hsame
              rw [hdec] at HS
              clear hdec hsame
              go_wp2_with fail
              refine HS.out.mono ?_
              rintro e w8 ⟨rfl, hd8⟩
              have HEND := Aside0.mk (HL7.out.below hd8.below).low
              clear hd8 HS HRC
              go_wp2
              go_ret
              exact ⟨rfl, HEND.out⟩
            · have hdec : decide (splB (X.getD []) = now) = false := decide_eq_false hsame
              have hthn : splB (X.getD []) = thn := HP.out.2.elim (fun h => absurd h hsame) id
              have HTH := Aside0.mk hthn
              rw [hdec] at HS
              clear hdec hsame hthn
              go_wp2_with fail
              refine HS.out.mono ?_
              rintro e w8 ⟨rfl, hd8⟩
              have HL8 := Aside0.mk (HL7.out.below hd8.below)
              have HT := Aside0.mk (HRC.out w8 (HB7.out.trans (hd8.below.mono HB7.out.size)))
              clear hd8 HS HRC
              go_wp2_with fail
              refine HT.out.mono ?_
              rintro e w9 ⟨v9, rfl, hn9, hb9⟩
              obtain ⟨A9, c9, rfl, hl9, hC9⟩ := NB_slice hn9
              have HL9 := Aside0.mk (HL8.out.below hb9)
              obtain ⟨A15', c15', e15, hl15', hC15⟩ := NB_slice HL9.out.n15
              rw [← HN15.out] at e15
              injection e15 with e15 e15' e15''
              subst e15 e15''
              have HS := Aside0.mk (sameAll_yes hC9 hC15 hl9 hl15' (by have := HSP.out.1; omega) (fun z hz => by have := HSP.out.2 z hz; omega) HTH.out)
              rw [← HN15.out] at HS
              clear hn9 hb9 hC9 hC15 HT
              go_wp2_with fail
              refine HS.out.mono ?_
              rintro e w10 ⟨rfl, hb10⟩
              have HEND := Aside0.mk (HL9.out.below hb10).low
              clear hb10 HS
              go_wp2
              go_ret
              exact ⟨rfl, HEND.out⟩
theorem i64_range {x : Int} (h : (Lit.int .i64 x).wf = true) : -9223372036854775808 ≤ x ∧ x ≤ 9223372036854775807 := by simpa [Lit.wf, IntKind.min, IntKind.max, IntKind.signed, IntKind.bits] using h
theorem acts_of : ∀ xs : List (List Int × Bool × Int), (∀ x ∈ xs, ((x.1.length * 1 ≤ 140737488351232 ∧ ∀ y ∈ x.1, (Lit.int .u8 y).wf = true) ∧ (True ∧ (Lit.int .i64 x.2.2).wf = true))) → ∃ l : List Ac, xs = l.map acI ∧ ∀ a ∈ l, -9223372036854775808 ≤ a.2.2 ∧ a.2.2 ≤ 9223372036854775807
  | [], _ => ⟨[], rfl, fun a h => by cases h⟩
  | x :: xs, h => by
    obtain ⟨l, hl, hb⟩ := acts_of xs (fun y hy => h y (List.mem_cons_of_mem _ hy))
    have h0 := h x List.mem_cons_self
    obtain ⟨b, hb0⟩ := nums_of x.1 h0.1.2
    refine ⟨(b, x.2.1, x.2.2) :: l, by rw [hl]; show x :: _ = (numsL b, x.2.1, x.2.2) :: _; rw [← hb0], fun a ha => ?_⟩
    rcases List.mem_cons.1 ha with ha | ha
    · subst ha
      exact i64_range h0.2.2
    · exact hb a ha
open Args in
theorem actRd : Rd Try.prog 51 kA (fun x => ((x.1.length * 1 ≤ 140737488351232 ∧ ∀ e9 ∈ x.1, (Lit.int .u8 e9).wf = true) ∧ (True ∧ (Lit.int .i64 x.2.2).wf = true))) := by
  refine rd_struct (f := fun x => x) (fun x => x) (fun _ => rfl) Try.underlying51 rfl (by kernel_rfl) ?_
  refine rdf_cons (f := ⟨ "B", 22, 0, false, "", "", 0⟩) (E := fun y : Bool × Int => True ∧ (Lit.int .i64 y.2).wf = true) rfl (by kernel_rfl) (rd_slice (B := 1) Try.underlying22 (by kernel_rfl) (by kernel_rfl) (rd_int Try.underlying5)) ?_
  refine rdf_cons (f := ⟨ "Pack", 4, 1, false, "", "", 24⟩) (E := fun y : Int => (Lit.int .i64 y).wf = true) rfl (by kernel_rfl) (rd_bool Try.underlying4) ?_
  exact rdf_one (f := ⟨ "N", 3, 2, false, "", "", 32⟩) rfl (by kernel_rfl) (rd_int Try.underlying3)
theorem LogCrash_row (W : World) (AL AG : Option Addr) (cL cG : Nat) (xs : List (List Int × Bool × Int)) (gs : List Int) (fuse keep torn : Int) (hL : kA.C W AL xs.length xs) (hcL : xs.length ≤ cL) (hx : xs.length * 40 ≤ 140737488351232 ∧ ∀ x ∈ xs, ((x.1.length * 1 ≤ 140737488351232 ∧ ∀ y ∈ x.1, (Lit.int .u8 y).wf = true) ∧ (True ∧ (Lit.int .i64 x.2.2).wf = true))) (hf : (Lit.int .i64 fuse).wf = true) (hG : Kd.C (Kd.int .u8) W AG gs.length gs) (hcG : gs.length ≤ cG) (hg : gs.length * 1 ≤ 140737488351232 ∧ ∀ y ∈ gs, (Lit.int .u8 y).wf = true) :
    Calls Try.prog 7 #[.slice AL xs.length cL, .int .i64 fuse, .int .i64 keep, .int .i64 torn, .slice AG gs.length cG] W fun e w' => e = .returned (.bool true) ∧ Below W.heap.size W w' := by
  obtain ⟨l, rfl, hb⟩ := acts_of xs hx.2
  have h1 := hx.1
  have h2 := hg.1
  have := LogCrash_calls W AL AG cL cG l gs fuse keep torn hL hG (by rw [List.length_map] at hcL; exact hcL) hcG (by rw [List.length_map] at h1; omega) (by omega) (fun x hx => by have := u8_range (hg.2 x hx); omega) (i64_range hf) hb
  rw [List.length_map]
  exact this
end Go.Proofs.Ytipclnniaenciaa.Hand
