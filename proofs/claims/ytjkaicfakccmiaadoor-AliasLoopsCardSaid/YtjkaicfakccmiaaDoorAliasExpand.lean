/- alias.Expand, walked by hand. -/
import Derived.Test.YtjkaicfakccmiaaDoorAliasOpen
import Derived.Test.YtjkaicfakccmiaaDoorCutRow
namespace Go.Proofs.YtjkaicfakccmiaaDoor.Hand
open Go.RowKit Go.Proofs.YtjkaicfakccmiaaDoorW.PrintWords Go.Proofs.YtjkaicfakccmiaaDoorW.PrintLast Go.Proofs.YtjkaicfakccmiaaDoorW.PrintMore Go.Proofs.YtjkaicfakccmiaaDoor.Addr
set_option linter.unusedVariables false
set_option linter.unusedSimpArgs false
/-- The first fifty of what comes out. -/
def expandO (al : List AliasS) (fuel : Nat) (rc : List ByteArray) : Option (List ByteArray) :=
  (rc.foldlM (fun st x => openO al fuel st x) ([], [])).bind fun st => if st.2.length ≤ 1000000 then some (st.2.take 50) else none
set_option maxHeartbeats 4000000 in
theorem clip_calls (A : Option Addr) (n c : Nat) (w : World) (h : n ≤ c) : Calls Tryd.prog 15 #[.slice A n c] w fun e w' => e = .returned (.slice A n n) ∧ Drawn0 w w' := by
  go_enter Tryd.func15, Tryd.ntmps15
  go_wp2
  go_ret
  exact ⟨rfl, Drawn0.refl _⟩
set_option maxHeartbeats 8000000 in
theorem expand_calls (fuel : Nat) (al : List AliasS) (Aa : Option Addr) (ca : Nat) (Ah Ab : Value) (sz : Int) (rc : List ByteArray) (Ar : Option Addr) (cr : Nat) (W : World) (l : List ByteArray) (hal : Kd.C kAlias W Aa al.length al) (hca : al.length ≤ ca) (hll : al.length ≤ 1000000) (hrc : Kd.string.C W Ar rc.length rc) (hcr : rc.length ≤ cr) (hrl : rc.length ≤ 1000000) (h : expandO al fuel rc = some l) :
    Calls Tryd.prog 8 #[.agg #[.slice Aa al.length ca, Ah, Ab, .int .i64 sz], .slice Ar rc.length cr] W fun e w' => ∃ v, e = .returned v ∧ Kd.Z Kd.string 9 w' W.heap.size (fun _ => True) v l ∧ Below W.heap.size W w' := by
  have HAL := Aside0.mk hal
  have HRC := Aside0.mk hrc
  have HH := Aside0.mk h
  clear hal hrc h
  have hmm := @run_makeMap Tryd.prog
  go_enter Tryd.func8, Tryd.ntmps8
  go_wp2
  have hB3 : Below W.heap.size W (((W.alloc (.cells #[.slice Aa al.length ca, Ah, Ab, .int .i64 sz] 26)).alloc (.map #[] 0)).alloc (.cells #[.slice Aa al.length ca, Ah, Ab, .int .i64 sz, .map (some (W.heap.size + 1)), .slice none 0 0] 45)) := (((Below.refl _ _).alloc (Nat.le_refl _) _).alloc (by simp) _).alloc (by simp; omega) _
  have hO3 : Op (((W.alloc (.cells #[.slice Aa al.length ca, Ah, Ab, .int .i64 sz] 26)).alloc (.map #[] 0)).alloc (.cells #[.slice Aa al.length ca, Ah, Ab, .int .i64 sz, .map (some (W.heap.size + 1)), .slice none 0 0] 45)) W.heap.size (W.heap.size + 1 + 1) (W.heap.size + 1) (.slice Aa al.length ca) Ah Ab sz (.slice none 0 0) [] [] := by
    refine ⟨by omega, by omega, by omega, ?_, ⟨.map [], ?_, Says.nil⟩, Kd.R_nil _ _ _ _ _, fun k hk => by simp [Value.ownBlock] at hk⟩
    · have := blk_new ((W.alloc (.cells #[.slice Aa al.length ca, Ah, Ab, .int .i64 sz] 26)).alloc (.map #[] 0)) (.cells #[.slice Aa al.length ca, Ah, Ab, .int .i64 sz, .map (some (W.heap.size + 1)), .slice none 0 0] 45)
      simpa using this
    · have := World.ownsMap_made (H := Unit) (W.alloc (.cells #[.slice Aa al.length ca, Ah, Ab, .int .i64 sz] 26)) Tryd.prog 9 (plainElem Tryd.prog 3)
      simpa using this.alloc _
  have HB3 := Aside0.mk hB3
  have HO3 := Aside0.mk hO3
  obtain ⟨⟨opf, outf⟩, hf, hl⟩ := Option.bind_eq_some_iff.1 HH.out
  have HF := Aside0.mk hf
  have HL := Aside0.mk hl
  clear hB3 hO3 hf hl hmm
  go_loopw [14] (fun v14 wr => ∃ (j : Nat) (vo1 : Value) (op1 out1 : List ByteArray), v14 = .int .i64 j ∧ j ≤ rc.length ∧ Aside0 (Op wr W.heap.size (W.heap.size + 1 + 1) (W.heap.size + 1) (.slice Aa al.length ca) Ah Ab sz vo1 op1 out1 ∧ Below W.heap.size W wr ∧ (rc.drop j).foldlM (fun st x => openO al fuel st x) (op1, out1) = some (opf, outf))) (fun v14 _ => rc.length - (intOf v14).toNat)
  case atStart => exact ⟨0, _, _, _, rfl, Nat.zero_le _, ⟨HO3.out, HB3.out, HF.out⟩⟩
  case round =>
    obtain ⟨j, vo1, op1, out1, rfl, hj, HI⟩ := hrel
    by_cases hlt : j < rc.length
    · obtain ⟨ady, rfl, hy⟩ := Kd.at_string HRC.out (j : Int) (by omega) (by omega)
      rw [Int.toNat_natCast] at hy
      have hyr := pw_cell_below HI.out.2.1 hy
      have hrd : rdOf ByteArray.empty rc (j : Int) = rc[j] := by unfold rdOf; simp [List.getD_eq_getElem?_getD, hlt]
      rw [hrd] at hyr
      clear hy hrd
      obtain ⟨⟨op2, out2⟩, hs1, hs2⟩ : ∃ st, openO al fuel (op1, out1) rc[j] = some st ∧ (rc.drop (j + 1)).foldlM (fun st x => openO al fuel st x) st = some (opf, outf) := by
        have h2 := HI.out.2.2
        rw [List.drop_eq_getElem_cons hlt, List.foldlM_cons] at h2
        exact Option.bind_eq_some_iff.1 h2
      have HS2 := Aside0.mk hs2
      have HCL := Aside0.mk (open_calls al Aa ca Ah Ab sz W W.heap.size (W.heap.size + 1 + 1) (W.heap.size + 1) HAL.out hca hll rfl fuel wr vo1 op1 out1 op2 out2 rc[j] HI.out.2.1 HI.out.1 hs1)
      obtain ⟨y, hyy⟩ : ∃ y, y = rc[j] := ⟨_, rfl⟩
      rw [← hyy] at hyr HCL
      clear hs1 hs2 hyy
      go_wp2_with (go_at_call 14; refine HCL.out.mono ?_; rintro e w3 ⟨vo2, rfl, hO3, hB3⟩; have HO3 := Aside0.mk hO3; have HB3 := Aside0.mk hB3; clear hO3 hB3)
      go_roundw
      case rel => exact ⟨j + 1, vo2, op2, out2, by go_num, by omega, ⟨HO3.out, HI.out.2.1.trans HB3.out, HS2.out⟩⟩
      case measure => simp [intOf]; omega
    · obtain rfl : j = rc.length := by omega
      have h2 := HI.out.2.2
      rw [List.drop_length] at h2
      obtain ⟨rfl, rfl⟩ : op1 = opf ∧ out1 = outf := by
        have := Option.some.inj h2
        exact ⟨congrArg Prod.fst this, congrArg Prod.snd this⟩
      obtain ⟨Ao, co, rfl⟩ := Kd.R_slice HI.out.1.row
      have hc5 := (blk_cell HI.out.1.cell 5).trans rfl
      clear h2
      have HCP := Aside0.mk (fun (n : Nat) (hn : n ≤ co) (m : Nat) => clip_calls Ao n co (wr.drewN m) hn)
      have hlo : out1.length ≤ 1000000 := by
        have := HL.out
        split at this
        · assumption
        · cases this
      have hlc : out1.length ≤ co := (Kd.R_reads' HI.out.1.row).2.1
      obtain rfl : l = out1.take 50 := by
        have := HL.out
        rw [if_pos hlo] at this
        exact (Option.some.inj this).symm
      clear HL HH
      go_wp2
      go_quiet (exact Calls.quiet_of ((HCP.out _ (by omega) _).mono fun _ _ h => ⟨h.1, h.2.out⟩))
      go_wp2
      have hmn : (min (out1.length : Int) 50).toNat = (out1.take 50).length := by rw [List.length_take]; omega
      rw [hmn]
      go_ret
      have htk : out1.take 50 = out1.take (out1.take 50).length := by rw [List.length_take, ← List.take_eq_take_min]
      exact ⟨_, rfl, ⟨Ao, out1.length, co, _, out1, Kd.R_below HI.out.1.row (pw_below_drewN (Below.refl _ _) nq), rfl, Nat.le_refl _, htk⟩, pw_below_drewN HI.out.2.1 nq⟩
/-! ### as the print wants it -/
theorem foldlM_mono {σ α : Type} {f g : σ → α → Option σ} (h : ∀ s a r, f s a = some r → g s a = some r) : ∀ (l : List α) (s r : σ), l.foldlM f s = some r → l.foldlM g s = some r := by
  intro l
  induction l with
  | nil => exact fun _ _ h => h
  | cons x l ih =>
    intro s r h1
    rw [List.foldlM_cons] at h1 ⊢
    obtain ⟨t, h2, h3⟩ := Option.bind_eq_some_iff.1 h1
    exact Option.bind_eq_some_iff.2 ⟨t, h _ _ _ h2, ih _ _ h3⟩
theorem openO_mono (al : List AliasS) : ∀ (k : Nat) (st : List ByteArray × List ByteArray) (s : ByteArray) (r), openO al k st s = some r → openO al (k + 1) st s = some r := by
  intro k
  induction k with
  | zero => intro st s r h; cases h
  | succ k ih =>
    intro st s r h
    rw [openO] at h ⊢
    obtain ⟨c, h1, h⟩ := Option.bind_eq_some_iff.1 h
    refine Option.bind_eq_some_iff.2 ⟨c, h1, ?_⟩
    split at h
    · rename_i hg
      rw [if_pos hg]
      cases ha : alAt c al with
      | none => rw [ha] at h; exact h
      | some n =>
        rw [ha] at h
        dsimp only at h ⊢
        split at h
        · rename_i hs
          rw [if_pos hs]
          exact h
        · rename_i hs
          rw [if_neg hs]
          split at h
          · rename_i hl
            rw [if_pos hl]
            exact foldlM_mono (fun s a r => ih s a r) _ _ _ h
          · cases h
    · cases h
def alias_Expand.f (k : Nat) (l0 : List AliasS) (l1 : List Go.Proofs.YtjkaicfakccmiaaDoor.PC.S96) (l2 : List Go.Proofs.YtjkaicfakccmiaaDoor.PC.S98) (i : Int) (rc : List ByteArray) : Option (List ByteArray) :=
  if l0.length ≤ 1000000 ∧ rc.length ≤ 1000000 then expandO l0 k rc else none
theorem alias_Expand.mono (l0 : List AliasS) (l1 : List Go.Proofs.YtjkaicfakccmiaaDoor.PC.S96) (l2 : List Go.Proofs.YtjkaicfakccmiaaDoor.PC.S98) (i : Int) (rc : List ByteArray) (k : Nat) : LeO (alias_Expand.f k l0 l1 l2 i rc) (alias_Expand.f (k + 1) l0 l1 l2 i rc) := by
  intro r h
  unfold alias_Expand.f expandO at h ⊢
  split at h
  · rename_i hg
    rw [if_pos hg]
    obtain ⟨st, h1, h2⟩ := Option.bind_eq_some_iff.1 h
    exact Option.bind_eq_some_iff.2 ⟨st, foldlM_mono (fun s a r => openO_mono l0 k s a r) _ _ _ h1, h2⟩
  · cases h
theorem alias_Expand.calls (k : Nat) (A0_0 : Option Addr) (c0_0 : Nat) (l0_0 : List AliasS) (A0_1 : Option Addr) (c0_1 : Nat) (l0_1 : List Go.Proofs.YtjkaicfakccmiaaDoor.PC.S96) (A0_2 : Option Addr) (c0_2 : Nat) (l0_2 : List Go.Proofs.YtjkaicfakccmiaaDoor.PC.S98) (a0_3 : Int) (A1 : Option Addr) (c1 : Nat) (l1 : List ByteArray) (r : List ByteArray) (w : World) (hr0_0 : Kd.C kAlias w A0_0 l0_0.length l0_0) (hc0_0 : l0_0.length ≤ c0_0) (hr0_1 : Kd.C Go.Proofs.YtjkaicfakccmiaaDoor.PC.k96 w A0_1 l0_1.length l0_1) (hc0_1 : l0_1.length ≤ c0_1) (hr0_2 : Kd.C Go.Proofs.YtjkaicfakccmiaaDoor.PC.k98 w A0_2 l0_2.length l0_2) (hc0_2 : l0_2.length ≤ c0_2) (hr1 : Kd.C Kd.string w A1 l1.length l1) (hc1 : l1.length ≤ c1) (h : alias_Expand.f k l0_0 l0_1 l0_2 a0_3 l1 = some r) :
    Calls Tryd.prog 8 #[.agg #[.slice A0_0 l0_0.length c0_0, .slice A0_1 l0_1.length c0_1, .slice A0_2 l0_2.length c0_2, .int .i64 a0_3], .slice A1 l1.length c1] w fun e w' => ∃ v0_ : Value, e = .returned (v0_) ∧ Kd.Z Kd.string 9 w' w.heap.size (fun _ => True) v0_ r ∧ Below w.heap.size w w' := by
  unfold alias_Expand.f at h
  split at h
  · rename_i hg
    exact expand_calls k l0_0 A0_0 c0_0 _ _ a0_3 l1 A1 c1 w r hr0_0 hc0_0 hg.1 hr1 hc1 hg.2 h
  · cases h
end Go.Proofs.YtjkaicfakccmiaaDoor.Hand
