/- container/heap over the pile: up, down, Push, Remove, as the model has them. -/
import Derived.Test.YtebmhjiogomheaaDueMem
namespace Go.Proofs.Ytebmhjiogomheaa.Hand
open Go.RowKit Go.Proofs.YtebmhjiogomheaaW.PrintWords Go.Proofs.YtebmhjiogomheaaW.PrintLast Go.Proofs.YtebmhjiogomheaaW.PrintMore Go.Proofs.Ytebmhjiogomheaa.PA
set_option linter.unusedVariables false
set_option linter.unusedSimpArgs false
/-- The pile in a Due: its cell in block q, its entries in blocks F. -/
def Pl (w : World) (F : Nat → Prop) (q : Nat) (p : List En) : Prop :=
  ∃ A c, w.heap[q]? = some (.cells #[.slice A p.length c] 49 (0, 0)) ∧ kE.R 55 w 0 (fun k => F k ∧ k ≠ q) (.slice A p.length c) p ∧ F q
section
variable {w w' : World} {F : Nat → Prop} {q : Nat} {p : List En}
theorem Pl.below (h : Pl w F q p) (hb : Below w.heap.size w w') : Pl w' F q p := by
  obtain ⟨A, c, h1, h2, h3⟩ := h
  exact ⟨A, c, blk_below h1 hb, Kd.R_below h2 hb, h3⟩
theorem Pl.cell (h : Pl w F q p) : ∃ A c, w.cell? ⟨q, 0, none⟩ = some (.slice A p.length c) ∧ w.frozen? ⟨q, 0, none⟩ = false ∧ kE.R 55 w 0 (fun k => F k ∧ k ≠ q) (.slice A p.length c) p := by
  obtain ⟨A, c, h1, h2, _⟩ := h
  exact ⟨A, c, (blk_cell h1 0).trans rfl, blk_frozen h1 0, h2⟩
/-- A pile that has an entry. -/
theorem Pl.some (h : Pl w F q p) (hp : 0 < p.length) : ∃ g c, w.cell? ⟨q, 0, none⟩ = some (.slice (some ⟨g, 0, none⟩) p.length c) ∧ kE.R 55 w 0 (fun k => F k ∧ k ≠ q) (.slice (some ⟨g, 0, none⟩) p.length c) p ∧ F g ∧ g ≠ q ∧ w.heap[q]? = Option.some (.cells #[.slice (Option.some ⟨g, 0, none⟩) p.length c] 49 (0, 0)) ∧ F q := by
  obtain ⟨A, c, h1, h2, h3⟩ := h
  obtain ⟨g, cap, e, _, _, _⟩ := Kd.R_form h2 hp
  injection e with e e1 e2
  subst e e2
  have := h2.1 g (by simp [Value.ownBlock])
  exact ⟨g, _, (blk_cell h1 0).trans rfl, h2, this.1, this.2, h1, h3⟩
/-- The pile's entries turned in their place. -/
theorem Pl.turn {p' : List En} {g c : Nat} (h1 : w.heap[q]? = Option.some (.cells #[.slice (Option.some ⟨g, 0, none⟩) p.length c] 49 (0, 0))) (hq : F q) (hg : F g) (hne : g ≠ q) (hl : p'.length = p.length) (hr : kE.R 55 w' 0 (fun k => F k ∧ k ≠ q) (.slice (Option.some ⟨g, 0, none⟩) p.length c) p') (hw : w.grownBy w' (Option.some g)) : Pl w' F q p' ∧ Chg F w w' := by
  refine ⟨⟨_, c, by rw [hl]; exact blk_grown h1 hw (fun he => by injection he with he; exact hne he.symm), by rw [hl]; exact hr, hq⟩, Chg.of_grown hw (fun k hk => by injection hk with hk; rw [← hk]; exact .inl hg)⟩
end
def swpE (p : List En) (i j : Nat) : List En := if hi : i < p.length then if hj : j < p.length then (p.set i p[j]).set j p[i] else p else p
theorem swpE_len (p : List En) (i j : Nat) : (swpE p i j).length = p.length := by
  unfold swpE
  split
  · split
    · rw [List.length_set, List.length_set]
    · rfl
  · rfl
def getE (p : List En) (i : Nat) : En := p.getD i (0, 0)
theorem getE_at (p : List En) (i : Nat) (hi : i < p.length) : getE p i = p[i] := by
  unfold getE
  rw [List.getD_eq_getElem?_getD, List.getElem?_eq_getElem hi]
  rfl
/-- heap.up. -/
def upF : Nat → List En → Nat → List En
  | 0, p, _ => p
  | k + 1, p, j => if j = 0 then p else if ltE (getE p j) (getE p ((j - 1) / 2)) = true then upF k (swpE p ((j - 1) / 2) j) ((j - 1) / 2) else p
theorem upF_succ (k : Nat) (p : List En) (j : Nat) : upF (k + 1) p j = if j = 0 then p else if ltE (getE p j) (getE p ((j - 1) / 2)) = true then upF k (swpE p ((j - 1) / 2) j) ((j - 1) / 2) else p := rfl
theorem upF_len : ∀ (k : Nat) (p : List En) (j : Nat), (upF k p j).length = p.length
  | 0, _, _ => rfl
  | k + 1, p, j => by
    unfold upF
    split
    · rfl
    · split
      · rw [upF_len, swpE_len]
      · rfl
set_option maxHeartbeats 8000000 in
set_option maxRecDepth 100000 in
theorem up_calls (w : World) (F : Nat → Prop) (q : Nat) (p : List En) (h : Pl w F q p) (j : Nat) (hj : j < p.length) (hl : p.length ≤ 1000000) :
    Calls Try.prog 27 #[pI q, .int .i64 j] w fun e w' => e = .returned (.tuple #[]) ∧ Pl w' F q (upF p.length p j) ∧ Chg F w w' := by
  have H := Aside0.mk h
  have ELE := e_less
  have ESW := e_swap
  clear h
  go_enter Try.func27, Try.ntmps27
  go_wp2
  go_loopw [1] (fun v1 wr => ∃ i : Nat, v1 = .int .i64 i ∧ i < p.length ∧ Aside0 (∃ k p', i ≤ k ∧ p'.length = p.length ∧ Pl wr F q p' ∧ Chg F w wr ∧ upF k p' i = upF p.length p j)) (fun v1 _ => (intOf v1).toNat)
  case atStart => exact ⟨j, rfl, hj, ⟨p.length, p, by omega, rfl, H.out, Chg.refl _ _, rfl⟩⟩
  case round =>
    obtain ⟨i, rfl, hi, HI⟩ := hrel
    obtain ⟨k, p', hk, hpl, hP, hC, he⟩ := HI.out
    obtain ⟨g, c, hz, hR, hFg, hgq, hbq, hFq⟩ := hP.some (by omega)
    have HL := Aside0.mk hpl
    have HP := Aside0.mk hP
    have HR := Aside0.mk hR
    have HC := Aside0.mk hC
    have HE := Aside0.mk he
    have HB := Aside0.mk (And.intro hbq (And.intro hFq (And.intro hFg hgq)))
    rw [hpl] at hz
    clear HI hpl hP hR hC he hbq hFg hgq hFq
    have hml := m_less ⟨q, 0, none⟩ _ _ _ wr hz
    by_cases h0 : i = 0
    · subst h0
      have hneg : (((0 : Nat) : Int) - 1).tdiv 2 = 0 := by decide
      go_wp2_with fail
      refine bodyPost_end (results_none rfl _ _ _) rfl ?_
      refine ⟨rfl, ?_, HC.out⟩
      rw [← HE.out]
      cases k with
      | zero => exact HP.out
      | succ k => exact HP.out
    · obtain ⟨m, hm⟩ : ∃ m : Nat, m = (i - 1) / 2 := ⟨_, rfl⟩
      have hmi : ((i : Int) - 1) / 2 = m := by omega
      have hmb : ((m : Int) == i) = false := by rw [beq_eq_false_iff_ne]; omega
      have hml1 : m < p'.length := by rw [HL.out]; omega
      have hil1 : i < p'.length := by rw [HL.out]; omega
      have HLC := Aside0.mk (HL.out ▸ less_calls wr 0 _ g _ c p' HR.out i m hil1 hml1)
      have HM := Aside0.mk hm
      clear hm
      have hgi : getE p' i = p'[i] := getE_at _ _ hil1
      have hgm : getE p' m = p'[m] := getE_at _ _ hml1
      have HG := Aside0.mk (And.intro hgi hgm)
      go_wp2_with fail
      refine HLC.out.mono ?_
      rintro e w1 ⟨rfl, hb1⟩
      obtain ⟨lt, hlt⟩ : ∃ b, b = ltE p'[i] p'[m] := ⟨_, rfl⟩
      rw [← hlt]
      have HLT := Aside0.mk hlt
      have HC1 := Aside0.mk (HC.out.below hb1)
      have HR1 := Aside0.mk (Kd.R_below HR.out hb1)
      have HQ1 := Aside0.mk (blk_below HB.out.1 hb1)
      have HP1 := Aside0.mk (HP.out.below hb1)
      have hz1 : w1.cell? ⟨q, 0, none⟩ = some (.slice (some ⟨g, 0, none⟩) p.length c) := by rw [← HL.out]; exact (blk_cell HQ1.out 0).trans rfl
      clear hb1 hlt hgi hgm hz hml HLC
      obtain ⟨k, rfl⟩ : ∃ k', k = k' + 1 := ⟨k - 1, by omega⟩
      cases lt with
      | false =>
        go_wp2
        refine bodyPost_end (results_none rfl _ _ _) rfl ?_
        refine ⟨rfl, ?_, HC1.out⟩
        rw [← HE.out]
        rw [upF_succ, if_neg h0, ← HM.out, HG.out.1, HG.out.2, ← HLT.out, if_neg (by decide)]
        exact HP1.out
      | true =>
        have hms := m_swap ⟨q, 0, none⟩ _ _ _ w1 hz1
        have HSW := Aside0.mk (HL.out ▸ swap_calls w1 0 _ g _ c p' HR1.out m i hml1 hil1)
        go_wp2_with fail
        refine HSW.out.mono ?_
        rintro e w2 ⟨rfl, hR2, hg2⟩
        have hsw : (p'.set m p'[i]).set i p'[m] = swpE p' m i := by unfold swpE; rw [dif_pos hml1, dif_pos hil1]
        rw [hsw] at hR2
        have HT := Aside0.mk (Pl.turn (p := p') HQ1.out HB.out.2.1 HB.out.2.2.1 HB.out.2.2.2 (swpE_len p' m i) (by rw [HL.out]; exact hR2) hg2)
        have HE2 := Aside0.mk (show upF k (swpE p' m i) m = upF p.length p j from by
          have := HE.out
          rw [upF_succ, if_neg h0, ← HM.out, HG.out.1, HG.out.2, ← HLT.out, if_pos rfl] at this
          exact this)
        clear hR2 hg2 hsw hms HSW hz1
        go_wp2
        go_roundw
        case rel => exact ⟨m, by first | rfl | (congr 1), by omega, ⟨k, swpE p' m i, by omega, by rw [swpE_len]; exact HL.out, HT.out.1, HC1.out.then_ HT.out.2 (fun k hk => .inl hk), HE2.out⟩⟩
        case measure => simp [intOf]; omega
/-- The child that is due first. -/
def kidE (p : List En) (i n : Nat) : Nat := if 2 * i + 2 < n ∧ ltE (getE p (2 * i + 2)) (getE p (2 * i + 1)) = true then 2 * i + 2 else 2 * i + 1
/-- heap.down: the entries, and where it ends. -/
def downF : Nat → List En → Nat → Nat → List En × Nat
  | 0, p, i, _ => (p, i)
  | k + 1, p, i, n => if n ≤ 2 * i + 1 then (p, i) else if ltE (getE p (kidE p i n)) (getE p i) = true then downF k (swpE p i (kidE p i n)) (kidE p i n) n else (p, i)
theorem downF_succ (k : Nat) (p : List En) (i n : Nat) : downF (k + 1) p i n = if n ≤ 2 * i + 1 then (p, i) else if ltE (getE p (kidE p i n)) (getE p i) = true then downF k (swpE p i (kidE p i n)) (kidE p i n) n else (p, i) := rfl
theorem downF_len : ∀ (k : Nat) (p : List En) (i n : Nat), (downF k p i n).1.length = p.length
  | 0, _, _, _ => rfl
  | k + 1, p, i, n => by
    rw [downF_succ]
    split
    · rfl
    · split
      · rw [downF_len, swpE_len]
      · rfl
set_option maxHeartbeats 8000000 in
set_option maxRecDepth 100000 in
theorem down_calls (w : World) (F : Nat → Prop) (q : Nat) (p : List En) (h : Pl w F q p) (i0 n : Nat) (hi0 : i0 < p.length) (hn : n ≤ p.length) (hl : p.length ≤ 1000000) :
    Calls Try.prog 26 #[pI q, .int .i64 i0, .int .i64 n] w fun e w' => e = .returned (.bool (decide (i0 < (downF n p i0 n).2))) ∧ Pl w' F q (downF n p i0 n).1 ∧ Chg F w w' := by
  have H := Aside0.mk h
  have ELE := e_less
  have ESW := e_swap
  clear h
  go_enter Try.func26, Try.ntmps26
  go_wp2
  go_loopw [7] (fun v7 wr => ∃ i : Nat, v7 = .int .i64 i ∧ i < p.length ∧ i0 ≤ i ∧ Aside0 (∃ k p', n ≤ k + i ∧ p'.length = p.length ∧ Pl wr F q p' ∧ Chg F w wr ∧ downF k p' i n = downF n p i0 n)) (fun v7 _ => p.length - (intOf v7).toNat)
  case atStart => exact ⟨i0, rfl, hi0, Nat.le_refl _, ⟨n, p, by omega, rfl, H.out, Chg.refl _ _, rfl⟩⟩
  case round =>
    obtain ⟨i, rfl, hi, hii, HI⟩ := hrel
    obtain ⟨k, p', hk, hpl, hP, hC, he⟩ := HI.out
    obtain ⟨g, c, hz, hR, hFg, hgq, hbq, hFq⟩ := hP.some (by omega)
    have HL := Aside0.mk hpl
    have HP := Aside0.mk hP
    have HR := Aside0.mk hR
    have HC := Aside0.mk hC
    have HE := Aside0.mk he
    have HB := Aside0.mk (And.intro hbq (And.intro hFq (And.intro hFg hgq)))
    rw [hpl] at hz
    clear HI hpl hP hR hC he hbq hFg hgq hFq
    have hml := m_less ⟨q, 0, none⟩ _ _ _ wr hz
    have hk0 : n ≤ 2 * i + 1 → downF k p' i n = (p', i) := fun hle => by cases k with | zero => rfl | succ k => rw [downF_succ, if_pos hle]
    have HK0 := Aside0.mk hk0
    clear hk0
    by_cases h0 : (n : Int) ≤ 2 * i + 1
    · have hd := HE.out.symm.trans (HK0.out (by omega))
      have HD := Aside0.mk hd
      clear hd hml hz
      go_wp2
      go_ret
      rw [HD.out]
      exact ⟨rfl, HP.out, HC.out⟩
    · obtain ⟨l, hl'⟩ : ∃ l : Nat, l = 2 * i + 1 := ⟨_, rfl⟩
      have hli : 2 * (i : Int) + 1 = l := by omega
      have hln : ¬ (n : Int) ≤ l := by omega
      have hl0 : ¬ (l : Int) < 0 := by omega
      obtain ⟨r, hr'⟩ : ∃ r : Nat, r = 2 * i + 2 := ⟨_, rfl⟩
      have hri : (l : Int) + 1 = r := by omega
      have hlp : l < p'.length := by rw [HL.out]; omega
      have hip : i < p'.length := by rw [HL.out]; exact hi
      obtain ⟨k, rfl⟩ : ∃ k', k = k' + 1 := ⟨k - 1, by omega⟩
      have HLE := Aside0.mk hl'
      have HRE := Aside0.mk hr'
      have HIL := Aside0.mk (show i < l ∧ i < r ∧ 2 * i + 1 < n from ⟨by omega, by omega, by omega⟩)
      clear h0 hl' hr'
      by_cases hrn : (r : Int) < n
      · have hrp : r < p'.length := by rw [HL.out]; omega
        have HL2 := Aside0.mk (HL.out ▸ less_calls wr 0 _ g _ c p' HR.out r l hrp hlp)
        go_wp2_with fail
        refine HL2.out.mono ?_
        rintro e w1 ⟨rfl, hb1⟩
        obtain ⟨lt2, hlt2⟩ : ∃ b, b = ltE p'[r] p'[l] := ⟨_, rfl⟩
        rw [← hlt2]
        have HL2T := Aside0.mk hlt2
        have HC1 := Aside0.mk (HC.out.below hb1)
        have HR1 := Aside0.mk (Kd.R_below HR.out hb1)
        have HQ1 := Aside0.mk (blk_below HB.out.1 hb1)
        have HP1 := Aside0.mk (HP.out.below hb1)
        have hzt : w1.cell? ⟨q, 0, none⟩ = some (.slice (some ⟨g, 0, none⟩) p.length c) := by rw [← HL.out]; exact (blk_cell HQ1.out 0).trans rfl
        clear hb1 hlt2 HL2 hml hz
        cases lt2 with
        | false =>
          have HKID := Aside0.mk (show kidE p' i n = l from by unfold kidE; rw [← HRE.out, ← HLE.out, getE_at _ _ hrp, getE_at _ _ hlp, ← HL2T.out, if_neg (by simp)])
          have hmp := hlp
          have hmls := m_less ⟨q, 0, none⟩ _ _ _ w1 hzt
          have HLC := Aside0.mk (HL.out ▸ less_calls w1 0 _ g _ c p' HR1.out l i hmp hip)
          go_wp2_with fail
          refine HLC.out.mono ?_
          rintro e w3 ⟨rfl, hb3⟩
          obtain ⟨lt, hlt⟩ : ∃ b, b = ltE p'[l] p'[i] := ⟨_, rfl⟩
          rw [← hlt]
          have HLT := Aside0.mk hlt
          have HC3 := Aside0.mk (HC1.out.below hb3)
          have HR3 := Aside0.mk (Kd.R_below HR1.out hb3)
          have HQ3 := Aside0.mk (blk_below HQ1.out hb3)
          have HP3 := Aside0.mk (HP1.out.below hb3)
          have hz3 : w3.cell? ⟨q, 0, none⟩ = some (.slice (some ⟨g, 0, none⟩) p.length c) := by rw [← HL.out]; exact (blk_cell HQ3.out 0).trans rfl
          have hgm : getE p' l = p'[l] := getE_at _ _ hmp
          have hgi : getE p' i = p'[i] := getE_at _ _ hip
          have HG := Aside0.mk (And.intro hgm hgi)
          clear hb3 hlt hgm hgi hmls HLC
          cases lt with
          | false =>
            have HD := Aside0.mk (show downF n p i0 n = (p', i) from by rw [← HE.out, downF_succ, if_neg (by have := HIL.out.2.2; omega), HKID.out, HG.out.1, HG.out.2, ← HLT.out, if_neg (by decide)])
            clear hz3
            go_wp2
            go_ret
            rw [HD.out]
            exact ⟨rfl, HP3.out, HC3.out⟩
          | true =>
            have hms := m_swap ⟨q, 0, none⟩ _ _ _ w3 hz3
            have HSW := Aside0.mk (HL.out ▸ swap_calls w3 0 _ g _ c p' HR3.out i l hip hmp)
            go_wp2_with fail
            refine HSW.out.mono ?_
            rintro e w4 ⟨rfl, hR4, hg4⟩
            have hsw : (p'.set i p'[l]).set l p'[i] = swpE p' i l := by unfold swpE; rw [dif_pos hip, dif_pos hmp]
            rw [hsw] at hR4
            have HT := Aside0.mk (Pl.turn (p := p') HQ3.out HB.out.2.1 HB.out.2.2.1 HB.out.2.2.2 (swpE_len p' i l) (by rw [HL.out]; exact hR4) hg4)
            have HE2 := Aside0.mk (show downF k (swpE p' i l) l n = downF n p i0 n from by
              have := HE.out
              rw [downF_succ, if_neg (by have := HIL.out.2.2; omega), HKID.out, HG.out.1, HG.out.2, ← HLT.out, if_pos rfl] at this
              exact this)
            clear hR4 hg4 hsw hms HSW hz3
            have hmi : i < l := by have := HIL.out; omega
            go_wp2
            go_roundw
            case rel => exact ⟨l, rfl, by have := HL.out; omega, by omega, ⟨k, swpE p' i l, by omega, by rw [swpE_len]; exact HL.out, HT.out.1, HC3.out.then_ HT.out.2 (fun k hk => .inl hk), HE2.out⟩⟩
            case measure => simp [intOf]; omega
        | true =>
          have HKID := Aside0.mk (show kidE p' i n = r from by unfold kidE; rw [← HRE.out, ← HLE.out, getE_at _ _ hrp, getE_at _ _ hlp, ← HL2T.out, if_pos ⟨by omega, rfl⟩])
          have hmp := hrp
          have hmls := m_less ⟨q, 0, none⟩ _ _ _ w1 hzt
          have HLC := Aside0.mk (HL.out ▸ less_calls w1 0 _ g _ c p' HR1.out r i hmp hip)
          go_wp2_with fail
          refine HLC.out.mono ?_
          rintro e w3 ⟨rfl, hb3⟩
          obtain ⟨lt, hlt⟩ : ∃ b, b = ltE p'[r] p'[i] := ⟨_, rfl⟩
          rw [← hlt]
          have HLT := Aside0.mk hlt
          have HC3 := Aside0.mk (HC1.out.below hb3)
          have HR3 := Aside0.mk (Kd.R_below HR1.out hb3)
          have HQ3 := Aside0.mk (blk_below HQ1.out hb3)
          have HP3 := Aside0.mk (HP1.out.below hb3)
          have hz3 : w3.cell? ⟨q, 0, none⟩ = some (.slice (some ⟨g, 0, none⟩) p.length c) := by rw [← HL.out]; exact (blk_cell HQ3.out 0).trans rfl
          have hgm : getE p' r = p'[r] := getE_at _ _ hmp
          have hgi : getE p' i = p'[i] := getE_at _ _ hip
          have HG := Aside0.mk (And.intro hgm hgi)
          clear hb3 hlt hgm hgi hmls HLC
          cases lt with
          | false =>
            have HD := Aside0.mk (show downF n p i0 n = (p', i) from by rw [← HE.out, downF_succ, if_neg (by have := HIL.out.2.2; omega), HKID.out, HG.out.1, HG.out.2, ← HLT.out, if_neg (by decide)])
            clear hz3
            go_wp2
            go_ret
            rw [HD.out]
            exact ⟨rfl, HP3.out, HC3.out⟩
          | true =>
            have hms := m_swap ⟨q, 0, none⟩ _ _ _ w3 hz3
            have HSW := Aside0.mk (HL.out ▸ swap_calls w3 0 _ g _ c p' HR3.out i r hip hmp)
            go_wp2_with fail
            refine HSW.out.mono ?_
            rintro e w4 ⟨rfl, hR4, hg4⟩
            have hsw : (p'.set i p'[r]).set r p'[i] = swpE p' i r := by unfold swpE; rw [dif_pos hip, dif_pos hmp]
            rw [hsw] at hR4
            have HT := Aside0.mk (Pl.turn (p := p') HQ3.out HB.out.2.1 HB.out.2.2.1 HB.out.2.2.2 (swpE_len p' i r) (by rw [HL.out]; exact hR4) hg4)
            have HE2 := Aside0.mk (show downF k (swpE p' i r) r n = downF n p i0 n from by
              have := HE.out
              rw [downF_succ, if_neg (by have := HIL.out.2.2; omega), HKID.out, HG.out.1, HG.out.2, ← HLT.out, if_pos rfl] at this
              exact this)
            clear hR4 hg4 hsw hms HSW hz3
            have hmi : i < r := by have := HIL.out; omega
            go_wp2
            go_roundw
            case rel => exact ⟨r, rfl, by have := HL.out; omega, by omega, ⟨k, swpE p' i r, by omega, by rw [swpE_len]; exact HL.out, HT.out.1, HC3.out.then_ HT.out.2 (fun k hk => .inl hk), HE2.out⟩⟩
            case measure => simp [intOf]; omega
      · have HKID := Aside0.mk (show kidE p' i n = l from by unfold kidE; rw [← HRE.out, ← HLE.out, if_neg (fun h => by have := h.1; omega)])
        have hmp := hlp
        have hmls := hml
        have HLC := Aside0.mk (HL.out ▸ less_calls wr 0 _ g _ c p' HR.out l i hmp hip)
        go_wp2_with fail
        refine HLC.out.mono ?_
        rintro e w3 ⟨rfl, hb3⟩
        obtain ⟨lt, hlt⟩ : ∃ b, b = ltE p'[l] p'[i] := ⟨_, rfl⟩
        rw [← hlt]
        have HLT := Aside0.mk hlt
        have HC3 := Aside0.mk (HC.out.below hb3)
        have HR3 := Aside0.mk (Kd.R_below HR.out hb3)
        have HQ3 := Aside0.mk (blk_below HB.out.1 hb3)
        have HP3 := Aside0.mk (HP.out.below hb3)
        have hz3 : w3.cell? ⟨q, 0, none⟩ = some (.slice (some ⟨g, 0, none⟩) p.length c) := by rw [← HL.out]; exact (blk_cell HQ3.out 0).trans rfl
        have hgm : getE p' l = p'[l] := getE_at _ _ hmp
        have hgi : getE p' i = p'[i] := getE_at _ _ hip
        have HG := Aside0.mk (And.intro hgm hgi)
        clear hb3 hlt hgm hgi hmls HLC
        cases lt with
        | false =>
          have HD := Aside0.mk (show downF n p i0 n = (p', i) from by rw [← HE.out, downF_succ, if_neg (by have := HIL.out.2.2; omega), HKID.out, HG.out.1, HG.out.2, ← HLT.out, if_neg (by decide)])
          clear hz3
          go_wp2
          go_ret
          rw [HD.out]
          exact ⟨rfl, HP3.out, HC3.out⟩
        | true =>
          have hms := m_swap ⟨q, 0, none⟩ _ _ _ w3 hz3
          have HSW := Aside0.mk (HL.out ▸ swap_calls w3 0 _ g _ c p' HR3.out i l hip hmp)
          go_wp2_with fail
          refine HSW.out.mono ?_
          rintro e w4 ⟨rfl, hR4, hg4⟩
          have hsw : (p'.set i p'[l]).set l p'[i] = swpE p' i l := by unfold swpE; rw [dif_pos hip, dif_pos hmp]
          rw [hsw] at hR4
          have HT := Aside0.mk (Pl.turn (p := p') HQ3.out HB.out.2.1 HB.out.2.2.1 HB.out.2.2.2 (swpE_len p' i l) (by rw [HL.out]; exact hR4) hg4)
          have HE2 := Aside0.mk (show downF k (swpE p' i l) l n = downF n p i0 n from by
            have := HE.out
            rw [downF_succ, if_neg (by have := HIL.out.2.2; omega), HKID.out, HG.out.1, HG.out.2, ← HLT.out, if_pos rfl] at this
            exact this)
          clear hR4 hg4 hsw hms HSW hz3
          have hmi : i < l := by have := HIL.out; omega
          go_wp2
          go_roundw
          case rel => exact ⟨l, rfl, by have := HL.out; omega, by omega, ⟨k, swpE p' i l, by omega, by rw [swpE_len]; exact HL.out, HT.out.1, HC3.out.then_ HT.out.2 (fun k hk => .inl hk), HE2.out⟩⟩
          case measure => simp [intOf]; omega
end Go.Proofs.Ytebmhjiogomheaa.Hand
