/- Records, and a log that is none, over memory. -/
import Derived.Test.YtipclnniaenciaaLogComp
namespace Go.Proofs.Ytipclnniaenciaa.Hand
open Go.RowKit Go.Maps Go.Proofs.YtipclnniaenciaaW.PrintWords Go.Proofs.YtipclnniaenciaaW.PrintLast Go.Proofs.YtipclnniaenciaaW.PrintMore
set_option linter.unusedVariables false
set_option linter.unusedSimpArgs false
set_option maxHeartbeats 8000000 in
theorem may_nil (w : World) (A : Option Addr) (n c : Nat) :
    Calls Try.prog 35 #[.pointer none, .slice A n c] w fun r w' => r = .returned (.int .i64 1) ∧ w' = w := by
  go_enter Try.func35, Try.ntmps35
  go_wp2
  go_ret
  exact ⟨rfl, rfl⟩
set_option maxHeartbeats 8000000 in
theorem lapp_nil (w : World) (A : Option Addr) (n c : Nat) :
    Calls Try.prog 18 #[.pointer none, .slice A n c] w fun r w' => r = .returned (.int .i64 1) ∧ Below w.heap.size w w' := by
  have hba := below_alloc (Below.refl w.heap.size w) (.cells #[.slice A n c] 22)
  have HBA := Aside0.mk hba
  have HM := Aside0.mk (may_nil (w.alloc (.cells #[.slice A n c] 22)) (some ⟨w.heap.size, 0, none⟩) 1 1)
  clear hba
  go_enter Try.func18, Try.ntmps18
  go_wp2_with fail
  refine HM.out.mono ?_
  rintro e w1 ⟨rfl, rfl⟩
  go_wp2
  go_ret
  exact ⟨rfl, HBA.out⟩
set_option maxHeartbeats 8000000 in
theorem lcom_nil (w : World) (A : Option Addr) (n c : Nat) :
    Calls Try.prog 20 #[.pointer none, .slice A n c] w fun r w' => r = .returned (.int .i64 1) ∧ w' = w := by
  have HM := Aside0.mk (may_nil w A n c)
  go_enter Try.func20, Try.ntmps20
  go_wp2_with fail
  refine HM.out.mono ?_
  rintro e w1 ⟨rfl, rfl⟩
  go_wp2
  go_ret
  exact ⟨rfl, rfl⟩
set_option maxHeartbeats 8000000 in
theorem recs_nil (w : World) :
    Calls Try.prog 15 #[.pointer none] w fun r w' => r = .returned (.slice none 0 0) ∧ w' = w := by
  go_enter Try.func15, Try.ntmps15
  go_wp2
  go_ret
  exact ⟨rfl, rfl⟩
set_option maxRecDepth 100000 in
set_option maxHeartbeats 16000000 in
theorem recs_calls (w : World) (B : Nat → Prop) (q p : Nat) (l : LSt) (hL : Lg w B q p l) (hrl : l.recs.length ≤ 100000000) (hs : ∀ x ∈ l.recs, x.length ≤ 1000000000) :
    Calls Try.prog 15 #[.pointer (some ⟨q, 0, none⟩)] w fun e w' => ∃ v, e = .returned v ∧ NB w' (fun k => w.heap.size ≤ k) v l.recs ∧ Below w.heap.size w w' := by
  obtain ⟨vr, hq, hnb, hBq⟩ := hL
  obtain ⟨Ar, cr, rfl, hlr, hCr⟩ := Kd.N_reads hnb
  obtain ⟨rs, hrs⟩ : ∃ rs, rs = l.recs := ⟨_, rfl⟩
  rw [← hrs] at hrl hs hlr hCr hq ⊢
  have HCR := Aside0.mk (show CR w Ar rs from hCr)
  rw [List.length_map] at hlr hq
  have HS := Aside0.mk hs
  have hz2 : w.cell? ⟨q, 2, none⟩ = some (.slice Ar rs.length cr) := (blk_cell hq 2).trans rfl
  clear hq hnb hBq hCr hrs hs
  go_enter Try.func15, Try.ntmps15
  go_wp2
  clear hz2
  go_loopw [3, 13] (fun v3 v13 wr => ∃ i : Nat, v13 = .int .i64 i ∧ i ≤ rs.length ∧ Aside0 (NB wr (fun k => w.heap.size ≤ k) v3 (rs.take i) ∧ Below w.heap.size w wr)) (fun _ v13 _ => rs.length - (intOf v13).toNat)
  case atStart => exact ⟨0, rfl, Nat.zero_le _, ⟨Kd.N_nil _ _ _ _ _, Below.refl _ _⟩⟩
  case round =>
    obtain ⟨i, rfl, hi, HI⟩ := hrel
    have HN := Aside0.mk HI.out.1
    have HB := Aside0.mk HI.out.2
    have hsr := HI.out.2.size
    clear HI
    obtain ⟨A3, c3, e3⟩ := Kd.N_slice HN.out
    obtain ⟨n3, hn3⟩ : ∃ n, n = ((rs.take i).map numsL).length := ⟨_, rfl⟩
    rw [← hn3] at e3
    subst e3
    clear hn3
    by_cases hlt : i < rs.length
    · obtain ⟨ad, A1, c1, rfl, hc, hlc1, hCi⟩ := rec_at (Kd.C_below HCR.out HB.out) i hlt
      have hle := HS.out _ (List.getElem_mem hlt)
      have HSN := Aside0.mk (fun (w : World) (ok : Nat → Prop) (v : Value) => N_snoc (w := w) (ok := ok) (v := v) rs i hlt)
      obtain ⟨x, hx⟩ : ∃ x, x = rs[i] := ⟨_, rfl⟩
      rw [← hx] at hc hlc1 hCi hle HSN
      have HT := Aside0.mk (clone_calls wr A1 x.length c1 x hCi rfl (by omega))
      clear hx hCi
      go_wp2_with fail
      refine HT.out.mono ?_
      rintro e w6 ⟨v6, rfl, hR6, hb6⟩
      obtain ⟨A6, n6, c6, rfl⟩ : ∃ A n c, v6 = .slice A n c := by obtain ⟨A, c, e, _⟩ := RB_slice hR6; exact ⟨A, _, c, e⟩
      have HNE := Aside0.mk (Kd.N_bound HN.out).1
      have HN6 := Aside0.mk (Kd.N_below (Kd.N_bound HN.out) hb6)
      have HR6 := Aside0.mk hR6
      have HB6 := Aside0.mk hb6
      have hs6 := hb6.size
      clear hR6 hb6 HT
      go_wp2_with ((with_reducible refine gate_builtin (b := .append) (xs := #[.tmp 17, .tmp 20]) rfl ?_); at_builtin; refine Kd.N_append (Kd.slice 5 (Kd.int .u8)) (w0 := w6) (W := w6) 0 rfl (.tmp 17) (.tmp 20) 32 22 (.slice none 0 0) 24 rfl Try.underlying32 infoSl rfl (by decide) (by omega) (.slice A3 n3 c3) ((rs.take i).map numsL) (numsL x) [.slice A6 n6 c6] (fun k => w.heap.size ≤ k) (fun k => wr.heap.size ≤ k) rfl rfl ?aM ?aK ?aF ?aO ?aB ?aS ?aL ?_; (case aM => exact Kd.FK_of_M (Kd.M_row HR6.out)); (case aK => exact fun k hk => ⟨Nat.le_trans hsr hk, fun he => by have := (HNE.out k he.symm).2; omega⟩); (case aF => exact fun k hk => Nat.le_trans hsr (Nat.le_trans hs6 hk)); (case aO => exact Kd.N_mono HN6.out (fun k hk => hk.1)); (case aB => exact Below.refl _ _); (case aS => exact Nat.zero_le _); (case aL => rw [List.length_map, List.length_take]; omega); intro v8 w8 ho8 hb8 hg8 hat8; have HO8 := Aside0.mk ho8; have HG8 := Aside0.mk hg8; clear ho8 hb8 hg8 hat8)
      go_roundw
      case rel => exact ⟨i + 1, by go_num, hlt, ⟨HSN.out _ _ _ HO8.out, (HB.out.trans (HB6.out.mono hsr)).trans (Chg.to_below (Chg.of_grown (F := fun k => w.heap.size ≤ k) HG8.out (fun k hk => .inl (HNE.out k hk).1)) (fun k hk => hk) (Nat.le_trans hsr hs6))⟩⟩
      case measure => simp [intOf]; omega
    · obtain rfl : i = rs.length := by omega
      go_wp2
      go_ret
      have hn := HN.out
      rw [List.take_length] at hn
      exact ⟨_, rfl, hn, HB.out⟩
end Go.Proofs.Ytipclnniaenciaa.Hand
