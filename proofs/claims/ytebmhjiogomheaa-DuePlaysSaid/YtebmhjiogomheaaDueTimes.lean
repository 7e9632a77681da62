/- DueTimes, walked by hand. -/
import Derived.Test.YtebmhjiogomheaaDueAgain
namespace Go.Proofs.Ytebmhjiogomheaa.Hand
open Go.RowKit Go.Proofs.YtebmhjiogomheaaW.PrintWords Go.Proofs.YtebmhjiogomheaaW.PrintLast Go.Proofs.YtebmhjiogomheaaW.PrintMore Go.Proofs.Ytebmhjiogomheaa.PA
set_option linter.unusedVariables false
set_option linter.unusedSimpArgs false
theorem at_num {k : IntKind} {w : World} {A : Option Addr} {l : List Int} (h : Kd.C (Kd.int k) w A l.length l) (i : Nat) (hi : i < l.length) : ∃ ad, A = some ad ∧ w.cell? (ad.add i) = some (.int k (l.getD i 0)) := by
  obtain ⟨ad, e, hc⟩ := Kd.at_int h (i : Int) (by omega) (by omega)
  rw [Int.toNat_natCast] at hc
  exact ⟨ad, e, hc⟩
theorem at_num' {k : IntKind} {w : World} {ad : Addr} {l : List Int} (h : Kd.C (Kd.int k) w (some ad) l.length l) (i : Nat) (hi : i < l.length) : w.cell? (ad.add i) = some (.int k (l.getD i 0)) := by
  obtain ⟨ad', e, hc⟩ := at_num h i hi
  injection e with e
  rw [e]
  exact hc
theorem bel_drewN (w : World) (n : Nat) : Below w.heap.size w (w.drewN n) := ⟨rfl, rfl, rfl, Nat.le_refl _, fun _ _ => rfl⟩
theorem getD_mem {l : List Int} {i : Nat} (hi : i < l.length) : l.getD i 0 ∈ l := by rw [getD_at l i hi]; exact List.getElem_mem hi
theorem u16_all {l : List Int} (h : ∀ x ∈ l, (Lit.int .u16 x).wf = true) : ∀ x ∈ l, 0 ≤ x ∧ x < 65536 := fun x hx => by
  have h1 : 0 ≤ x ∧ x ≤ 65535 := by simpa [Lit.wf, IntKind.min, IntKind.max, IntKind.signed, IntKind.bits] using h x hx
  omega
theorem i8_all {l : List Int} (h : ∀ x ∈ l, (Lit.int .i8 x).wf = true) : ∀ x ∈ l, -128 ≤ x ∧ x < 128 := fun x hx => by
  have h1 : -128 ≤ x ∧ x ≤ 127 := by simpa [Lit.wf, IntKind.min, IntKind.max, IntKind.signed, IntKind.bits] using h x hx
  omega
/-- At the head of the loop: what is set, the first place of the least. -/
def TmI (W wr : World) (q : Nat) (l : List Int) (i f : Nat) : Prop := ∃ F p, DL W wr F q p ∧ Tl l i p ∧ Fst l i f
set_option maxRecDepth 100000 in
set_option maxHeartbeats 16000000 in
theorem DueTimes_calls (W : World) (A : Option Addr) (c : Nat) (l : List Int) (hL : Kd.C (Kd.int .u16) W A l.length l) (hc : l.length ≤ c) (hb : ∀ x ∈ l, 0 ≤ x ∧ x < 65536) :
    Calls Try.prog 7 #[.slice A l.length c] W fun e w' => e = .returned (.bool true) ∧ Below W.heap.size W w' := by
  have HL := Aside0.mk hL
  have HBD := Aside0.mk hb
  clear hL hb
  by_cases h0 : l.length = 0
  · have h0i : ((l.length : Int) == 0) = true := by rw [h0]; rfl
    clear h0
    go_enter Try.func7, Try.ntmps7
    go_wp2_with fail
    refine (answers_calls _).mono ?_
    rintro e w4 ⟨rfl, hb4⟩
    have HB4 := Aside0.mk hb4
    clear hb4
    go_wp2
    go_ret
    exact ⟨rfl, HB4.out⟩
  · have h0i : ((l.length : Int) == 0) = false := beq_eq_false_iff_ne.2 (by omega)
    by_cases h1 : (50 : Int) < l.length
    · go_enter Try.func7, Try.ntmps7
      go_wp2_with fail
      refine (answers_calls _).mono ?_
      rintro e w4 ⟨rfl, hb4⟩
      have HB4 := Aside0.mk hb4
      clear hb4
      go_wp2
      go_ret
      exact ⟨rfl, HB4.out⟩
    · have HN := Aside0.mk (DL.new W)
      go_enter Try.func7, Try.ntmps7
      go_wp2_with fail
      refine HN.out.mono ?_
      rintro e w1 ⟨q, F1, rfl, hd1⟩
      have HD1 := Aside0.mk hd1
      clear hd1 HN
      go_wp2
      go_loopw [4, 5] (fun v4 v5 wr => ∃ i f : Nat, v5 = .int .i64 i ∧ v4 = .int .i64 f ∧ i ≤ l.length ∧ f < l.length ∧ Aside0 (TmI W wr q l i f)) (fun _ v5 _ => l.length - (intOf v5).toNat)
      case atStart => exact ⟨0, 0, rfl, rfl, Nat.zero_le _, by omega, ⟨F1, [], HD1.out, Tl.start l, .inl ⟨rfl, rfl⟩⟩⟩
      case round =>
        obtain ⟨i, f, rfl, rfl, hi, hf, HI⟩ := hrel
        obtain ⟨F, p, hd, ht, hfst⟩ := HI.out
        by_cases hlt : i < l.length
        · have HT := Aside0.mk ht
          have HFS := Aside0.mk hfst
          obtain ⟨ad, rfl, hx0⟩ := at_num (Kd.C_below HL.out hd.2.2) i hlt
          have hbx := HBD.out _ (getD_mem hlt)
          have hby := HBD.out _ (getD_mem hf)
          have HS := Aside0.mk (hd.set i (l.getD i 0) (ht.set_len hi (by omega)))
          rw [show setF p i (l.getD i 0) = setF p i l[i] from by rw [getD_at l i hlt]] at HS
          have HST := Aside0.mk (ht.step hlt)
          obtain ⟨x, hx⟩ : ∃ x, x = l.getD i 0 := ⟨_, rfl⟩
          obtain ⟨y, hy⟩ : ∃ y, y = l.getD f 0 := ⟨_, rfl⟩
          rw [← hx] at hbx hx0 HS
          rw [← hy] at hby
          have HXY := Aside0.mk (And.intro hx hy)
          have hbx1 := hbx.1
          have hbx2 := hbx.2
          clear hx hy hd ht hfst HI hbx
          go_wp2_with fail
          refine HS.out.mono ?_
          rintro e w2 ⟨rfl, F2, hd2⟩
          have HD2 := Aside0.mk hd2
          have hx2 := at_num' (Kd.C_below HL.out hd2.2.2) i hlt
          have hy2 := at_num' (Kd.C_below HL.out hd2.2.2) f hf
          rw [← HXY.out.1] at hx2
          rw [← HXY.out.2] at hy2
          clear hd2 HS hx0
          go_wp2
          go_quiet (fail)
          by_cases hxy : x < y
          · have HXL := Aside0.mk hxy
            go_wp2
            go_roundw
            case rel => exact ⟨i + 1, i, by go_num, rfl, hlt, hlt, ⟨F2, _, HD2.out.below (bel_drewN _ _), HST.out, HFS.out.yes (by rw [← HXY.out.1, ← HXY.out.2]; exact HXL.out)⟩⟩
            case measure => simp [intOf]; omega
          · have HXL := Aside0.mk hxy
            go_wp2
            go_roundw
            case rel => exact ⟨i + 1, f, by go_num, rfl, hlt, hf, ⟨F2, _, HD2.out.below (bel_drewN _ _), HST.out, HFS.out.no (by rw [← HXY.out.1, ← HXY.out.2]; exact HXL.out)⟩⟩
            case measure => simp [intOf]; omega
        · obtain rfl : i = l.length := by omega
          have HE := Aside0.mk (hfst.early ht (by omega))
          have HD := Aside0.mk hd
          have HPL := Aside0.mk (ht.len (Nat.le_refl _))
          obtain ⟨ad, rfl, hx0⟩ := at_num (Kd.C_below HL.out hd.2.2) f hf
          have hbx := HBD.out _ (getD_mem hf)
          have HF1 := Aside0.mk (hd.first (l.getD f 0 - 1) (by rw [ht.len (Nat.le_refl _)]; omega))
          have HF2 := Aside0.mk (hd.first (l.getD f 0) (by rw [ht.len (Nat.le_refl _)]; omega))
          obtain ⟨x, hx⟩ : ∃ x, x = l.getD f 0 := ⟨_, rfl⟩
          unfold FirstPost at HF1 HF2
          rw [← hx] at hx0 hbx HF1 HF2 HE
          rw [HE.out.2] at HF2
          rw [HE.out.1] at HF1
          have hbx1 := hbx.1
          have hbx2 := hbx.2
          clear hx hd ht hfst HI hbx
          go_wp2_with fail
          refine HF1.out.mono ?_
          rintro e w2 ⟨rfl, hw2⟩
          subst hw2
          go_wp2_with fail
          refine HF2.out.mono ?_
          rintro e w3 ⟨rfl, hw3⟩
          subst hw3
          clear HF1 HF2
          go_wp2_with fail
          refine (answers_calls _).mono ?_
          rintro e w4 ⟨rfl, hb4⟩
          have HA := Aside0.mk ((HD.out.below hb4).all (by have := HPL.out; omega))
          clear hb4
          go_wp2_with fail
          refine HA.out.mono ?_
          rintro e w5 ⟨A5, c5, rfl, _, _, hd5, _⟩
          rw [HPL.out]
          have HB5 := Aside0.mk hd5.2.2
          clear hd5 HA
          go_wp2
          go_ret
          exact ⟨rfl, HB5.out⟩
end Go.Proofs.Ytebmhjiogomheaa.Hand
