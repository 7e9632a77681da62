/- alias.opener.open, walked by hand: what it computes, and the state that it keeps in memory. -/
import Derived.Test.YtjkaicfakccmiaaDoorPBx
import Derived.Test.YtjkaicfakccmiaaDoorHandAlias
import Derived.Test.YtjkaicfakccmiaaDoorWKept
import Derived.Maps.Own
import Derived.Maps.OwnOps
import Derived.Maps.OwnSet
import Derived.Maps.Views
namespace Go.Proofs.YtjkaicfakccmiaaDoor.Hand
open Go.RowKit Go.Proofs.YtjkaicfakccmiaaDoorW.PrintWords Go.Proofs.YtjkaicfakccmiaaDoorW.PrintLast Go.Proofs.YtjkaicfakccmiaaDoorW.PrintMore Go.Proofs.YtjkaicfakccmiaaDoor.Addr
set_option linter.unusedVariables false
set_option linter.unusedSimpArgs false
def hasS (s : ByteArray) (l : List ByteArray) : Bool := l.any fun x => decide (x = s)
/-- What is opened, and what has come out: open, with so many levels left. -/
def openO (al : List AliasS) : Nat → List ByteArray × List ByteArray → ByteArray → Option (List ByteArray × List ByteArray)
  | 0, _, _ => none
  | k + 1, st, s => (PB.alias_canon.f s).bind fun c =>
    if (alAt c al = none ∨ c.size ≤ 1000000) ∧ st.1.length ≤ 1000000 ∧ st.2.length ≤ 1000000 then
      match alAt c al with
      | none => some (st.1, if hasS c st.2 = true then st.2 else st.2 ++ [c])
      | some n => if hasS c st.1 = true then some st else if ((al.getD n zAlias).f1).length ≤ 1000000 then ((al.getD n zAlias).f1).foldlM (fun st x => openO al k st x) (c :: st.1, st.2) else none
    else none
theorem al_lt (d : ByteArray) (l : List AliasS) (k : Nat) (h : alAt d l = some k) : k < l.length := by
  induction l generalizing k with
  | nil => cases h
  | cons x l ih =>
    rw [alAt] at h
    rw [List.length_cons]
    split at h
    · injection h with h
      omega
    · obtain ⟨j, h1, rfl⟩ := Option.map_eq_some_iff.1 h
      have := ih j h1
      show j + 1 < _
      omega
theorem contains_l0 (l : List ByteArray) (c : ByteArray) (hl : l.length ≤ 1000000) : ∀ (n k i : Nat), l.length - i ≤ n → n < k → i ≤ l.length → ∃ r, PB.slices_Index_string_string.l0 k l c (l.length : Int) (i : Int) = some r ∧ decide (r ≥ 0) = hasS c (l.drop i) := by
  intro n
  induction n with
  | zero =>
    intro k i hn hk hi
    obtain ⟨k, rfl⟩ : ∃ k', k = k' + 1 := ⟨k - 1, by omega⟩
    obtain rfl : i = l.length := by omega
    rw [PB.slices_Index_string_string.l0, if_neg (by omega), List.drop_length]
    exact ⟨_, rfl, rfl⟩
  | succ n ih =>
    intro k i hn hk hi
    obtain ⟨k, rfl⟩ : ∃ k', k = k' + 1 := ⟨k - 1, by omega⟩
    by_cases h : i < l.length
    · have hrd : rdOf ByteArray.empty l (i : Int) = l[i] := by unfold rdOf; simp [List.getD_eq_getElem?_getD, h]
      rw [PB.slices_Index_string_string.l0, if_pos (by omega), if_pos (by omega), if_pos (by omega), hrd]
      by_cases e : c.toList = l[i].toList
      · rw [if_pos e]
        have e2 : l[i] = c := by
          have := str_eqb l[i] c
          rw [e] at this
          simpa using this.symm
        refine ⟨_, rfl, ?_⟩
        rw [decide_eq_true (by omega), List.drop_eq_getElem_cons h]
        simp [hasS, e2]
      · rw [if_neg e]
        have e2 : ¬ l[i] = c := fun e3 => e (by rw [e3])
        have hw : wrap64 ((i : Int) + 1) = ((i + 1 : Nat) : Int) := by rw [Go.IntWalk.wrap64_in _ (by omega)]; omega
        rw [hw]
        obtain ⟨r, hr, hd⟩ := ih k (i + 1) (by omega) (by omega) (by omega)
        refine ⟨r, hr, ?_⟩
        rw [hd, List.drop_eq_getElem_cons h]
        unfold hasS
        rw [List.any_cons, decide_eq_false e2, Bool.false_or]
    · obtain rfl : i = l.length := by omega
      rw [PB.slices_Index_string_string.l0, if_neg (by omega), List.drop_length]
      exact ⟨_, rfl, rfl⟩
theorem contains_f (l : List ByteArray) (c : ByteArray) (hl : l.length ≤ 1000000) : PB.slices_Contains_string_string.f (l.length + 1) l c = some (hasS c l) := by
  unfold PB.slices_Contains_string_string.f PB.slices_Index_string_string.f
  obtain ⟨r, hr, hd⟩ := contains_l0 l c hl l.length (l.length + 1) 0 (by omega) (by omega) (by omega)
  rw [Int.natCast_zero] at hr
  rw [hr, Option.bind_some, hd, List.drop_zero]
abbrev DU := DataW Unit
theorem lawS : Maps.Keyed Tryd.prog 9 := Maps.string_keyed Tryd.underlying9
theorem zeroI (w : World) : (zeroValue 3).run Tryd.prog w = .ok (.int .i64 0) w := by kernel_rfl
/-- The map says of each name whether it has been opened. -/
def Says (D : DU) (op : List ByteArray) : Prop := ∀ s : ByteArray, D.atKey (.string s.data.toList) (.lit (.int .i64 0)) = .lit (.int .i64 (if hasS s op = true then 1 else 0))
theorem Says.nil : Says (.map []) [] := fun s => rfl
theorem toList_ne {a b : ByteArray} (h : a ≠ b) : a.data.toList ≠ b.data.toList := fun e => h (ByteArray.ext (Array.toList_inj.1 e))
theorem Says.put {D : DU} {op : List ByteArray} (h : Says D op) (hD : Maps.IsMap D) (c : ByteArray) : Says (D.put (.string c.data.toList) (.lit (.int .i64 1))) (c :: op) := fun s => by
  by_cases e : s = c
  · subst e
    rw [Maps.atKey_put_same hD (by trivial)]
    have : hasS s (s :: op) = true := by simp [hasS]
    rw [if_pos this]
  · rw [Maps.atKey_put_other (fun e2 => by injection e2 with e2; exact toList_ne e e2), h s]
    have : hasS s (c :: op) = hasS s op := by simp [hasS, Ne.symm e]
    rw [this]
structure Op (W : World) (base p mb : Nat) (Aa Ah Ab : Value) (sz : Int) (vo : Value) (op out : List ByteArray) : Prop where
  pos : base ≤ p
  mpos : base ≤ mb
  pm : p ≠ mb
  cell : W.heap[p]? = some (.cells #[Aa, Ah, Ab, .int .i64 sz, .map (some mb), vo] 45 (0, 0))
  map : ∃ D : DU, W.ownsMap Tryd.prog 9 (plainElem Tryd.prog 3) mb op.length D ∧ Says D op
  row : Kd.R Kd.string 9 W base (fun _ => True) vo out
  far : ∀ k, vo.ownBlock = some k → k ≠ p ∧ k ≠ mb
theorem Op.same {W W' : World} {base p mb : Nat} {Aa Ah Ab : Value} {sz : Int} {vo : Value} {op out : List ByteArray} (h : Op W base p mb Aa Ah Ab sz vo op out) (hk : ∀ k, k < W.heap.size → (k = p ∨ k = mb ∨ vo.ownBlock = some k) → W'.heap[k]? = W.heap[k]?) : Op W' base p mb Aa Ah Ab sz vo op out := by
  obtain ⟨D, hD, hS⟩ := h.map
  have hlt := hD.lt
  obtain ⟨es, clock, hb, F, hs, hDD⟩ := hD
  refine ⟨h.pos, h.mpos, h.pm, (hk p (blk_lt h.cell) (.inl rfl)).trans h.cell, ⟨D, ⟨es, clock, (hk mb hlt (.inr (.inl rfl))).trans hb, F, hs, hDD⟩, hS⟩, ?_, h.far⟩
  exact Kd.R_mono (Kd.R_step (Kd.R_tight2 rfl h.row) (fun k ho hl => hk k hl (.inr (.inr ho.1.symm)))) (fun k ho => ho.2)
theorem Op.below {W W' : World} {base p mb : Nat} {Aa Ah Ab : Value} {sz : Int} {vo : Value} {op out : List ByteArray} (h : Op W base p mb Aa Ah Ab sz vo op out) (hb : Below W.heap.size W W') : Op W' base p mb Aa Ah Ab sz vo op out := h.same (fun k hk _ => hb.block k hk)
set_option maxHeartbeats 8000000 in
theorem open_calls (al : List AliasS) (Aa : Option Addr) (ca : Nat) (Ah Ab : Value) (sz : Int) (w0 : World) (base p mb : Nat) (hal : Kd.C kAlias w0 Aa al.length al) (hca : al.length ≤ ca) (hll : al.length ≤ 1000000) (hb0 : base = w0.heap.size) : ∀ (k : Nat) (W : World) (vo : Value) (op out op' out' : List ByteArray) (s : ByteArray),
    Below base w0 W → Op W base p mb (.slice Aa al.length ca) Ah Ab sz vo op out → openO al k (op, out) s = some (op', out') →
    Calls Tryd.prog 14 #[.pointer (some ⟨p, 0, none⟩), .string s] W fun e w' => ∃ vo', e = .returned (.tuple #[]) ∧ Op w' base p mb (.slice Aa al.length ca) Ah Ab sz vo' op' out' ∧ Below base W w' := by
  intro k
  induction k with
  | zero =>
    intro W vo op out op' out' s hB hO h
    simp [openO] at h
  | succ k ih =>
    intro W vo op out op' out' s hB hO h
    have HB := Aside0.mk hB
    have HO := Aside0.mk hO
    have HAL := Aside0.mk hal
    rw [openO] at h
    obtain ⟨c, hc, h⟩ := Option.bind_eq_some_iff.1 h
    by_cases hg : (alAt c al = none ∨ c.size ≤ 1000000) ∧ op.length ≤ 1000000 ∧ out.length ≤ 1000000
    case neg => rw [if_neg hg] at h; cases h
    rw [if_pos hg] at h
    obtain ⟨Ao, co, rfl⟩ := Kd.R_slice HO.out.row
    have HC := Aside0.mk (fun W' => PB.alias_canon.calls s c W' hc)
    have HH := Aside0.mk h
    have IH := Aside0.mk ih
    clear h hc hB hO hal ih
    go_enter Tryd.func14, Tryd.ntmps14
    go_wp2_with fail
    refine (HC.out _).mono ?_
    rintro e w1 ⟨rfl, hb1⟩
    have hbx := blk_below (blk_new W (.cells #[.string s] 9)) hb1
    have hbW1 := below_step (below_alloc (Below.refl _ _) _) hb1
    have hpk := blk_below HO.out.cell hbW1
    have hpw := blk_lt HO.out.cell
    have hx0 := (blk_cell hbx 0).trans rfl
    have hxf := blk_frozen hbx 0
    have hp0 := (blk_cell hpk 0).trans rfl
    have HBX := Aside0.mk hbx
    have HPK := Aside0.mk hpk
    have HBW1 := Aside0.mk hbW1
    have hwx := blk_lt hbx
    have hpne : p ≠ W.heap.size := by omega
    have HIX := Aside0.mk (index_alias Aa ca al ⟨W.heap.size, 0, none⟩ c (w1.setCell ⟨W.heap.size, 0, none⟩ (.string c)) (Kd.C_below HAL.out ((hb0 ▸ HB.out).trans ((hbW1.mono (hb0 ▸ HB.out).size).setCell (p := ⟨W.heap.size, 0, none⟩) (hb0 ▸ HB.out).size _))) hca (by omega) ((blk_cell (blk_put (cs := #[.string s]) hbx 0 (.string c) rfl) 0).trans rfl))
    have hB1 : Below W.heap.size W (w1.setCell ⟨W.heap.size, 0, none⟩ (.string c)) := below_set hbW1 (Nat.le_refl _)
    have HB1 := Aside0.mk hB1
    have HP1 := Aside0.mk (blk_far hpk (p := ⟨W.heap.size, 0, none⟩) hpne (.string c))
    have HX1 := Aside0.mk (blk_put (cs := #[.string s]) hbx 0 (.string c) rfl)
    clear hb1 hbx hbW1 hpk hB1
    cases ha : alAt c al with
    | none =>
      have hidx : alIdx c al = -1 := by unfold alIdx; rw [ha]
      rw [hidx] at HIX
      have hh := HH.out
      rw [ha] at hh
      simp only [Option.some.injEq, Prod.mk.injEq] at hh
      obtain ⟨rfl, hout⟩ := hh
      have HOUT := Aside0.mk hout
      clear hidx ha hout HH IH
      go_wp2_with fail
      refine HIX.out.mono ?_
      rintro e w2 ⟨rfl, hb2⟩
      have hpk2 := blk_below HP1.out hb2
      have hxk2 := blk_below HX1.out hb2
      have hB2 := below_step HB1.out hb2
      have hp50 := (blk_cell hpk2 5).trans rfl
      have hpf5 := blk_frozen hpk2 5
      have hx20 := (blk_cell hxk2 0).trans rfl
      have HR2 := Aside0.mk (Kd.R_below HO.out.row hB2)
      have HB2 := Aside0.mk hB2
      have HP2 := Aside0.mk hpk2
      have HX2 := Aside0.mk hxk2
      have hvl := fun k hk => (by obtain ⟨inner, ho⟩ := Kd.R_own HO.out.row; exact own_lt ho k hk : k < W.heap.size)
      have hbW : base ≤ W.heap.size := by have := HB.out.size; omega
      have HCT := Aside0.mk (fun n => PB.slices_Contains_string_string.calls (out.length + 1) Ao co out c (hasS c out) (w2.drewN n) (Kd.R_reads' HR2.out).2.2 (Kd.R_reads' HR2.out).2.1 (contains_f out c hg.2.2))
      clear hb2 hpk2 hxk2 hB2 hx0 hp0 hxf
      go_wp2
      go_quiet (exact Calls.quiet_of ((HCT.out _).mono fun _ _ h => ⟨h.1, h.2.out⟩))
      go_wp2
      rotate_left
      · have hh2 : hasS c out = true := by first | assumption | simp_all
        refine bodyPost_ret (results_none rfl _ _ _) rfl ?_
        have hb3 := pw_below_drewN HB2.out nq
        have ho := HOUT.out
        rw [if_pos hh2] at ho
        subst ho
        exact ⟨_, rfl, HO.out.below hb3, hb3.mono (by have := HB.out.size; omega)⟩
      · skip
        refine start_ (n := 11) (S := fun w' => w'.cell? ⟨p, 5, none⟩ = some (.slice Ao out.length co) ∧ w'.cell? ⟨W.heap.size, 0, none⟩ = some (.string c)) (ds := [10]) #[false, false, false, false, false, false, false, false, false, false, false] (by kernel_rfl) rfl rfl ⟨hp50, hx20⟩ (fun hHeld => ?_)
        refine pure_ (i := 0) (N := some 25) (v := ?_) (a' := ?_) #[true, false, false, false, false, false, false, false, false, false, false] rfl rfl (by kernel_rfl) (fun _ _ _ h => h) (Or.inl ⟨by rfl, ?_⟩) ?_ ?_
        rotate_left
        · intro w'
          go_simp
          with_reducible rfl
        rotate_left
        · simp only [Act.put, List.setIfInBounds_toArray, List.set_cons_zero, List.set_cons_succ, i64_w, i32_w]
          rfl
        refine pure_ (i := 1) (N := some 26) (v := ?_) (a' := ?_) #[true, true, false, false, false, false, false, false, false, false, false] rfl rfl (by kernel_rfl) (fun _ _ _ h => h) (Or.inl ⟨by rfl, ?_⟩) ?_ ?_
        rotate_left
        · intro w'
          go_simp
          with_reducible rfl
        rotate_left
        · simp only [Act.put, List.setIfInBounds_toArray, List.set_cons_zero, List.set_cons_succ, i64_w, i32_w]
          rfl
        refine pure_ (i := 2) (N := some 27) (v := ?_) (a' := ?_) #[true, true, true, false, false, false, false, false, false, false, false] rfl rfl (by kernel_rfl) (fun _ _ _ h => h) (Or.inl ⟨by rfl, ?_⟩) ?_ ?_
        rotate_left
        · intro w'
          go_simp
          with_reducible rfl
        rotate_left
        · simp only [Act.put, List.setIfInBounds_toArray, List.set_cons_zero, List.set_cons_succ, i64_w, i32_w]
          rfl
        refine pure_ (i := 3) (N := some 28) (v := ?_) (a' := ?_) #[true, true, true, true, false, false, false, false, false, false, false] rfl rfl (by kernel_rfl) (fun _ _ _ h => h) (Or.inl ⟨by rfl, ?_⟩) ?_ ?_
        rotate_left
        · intro w'
          go_simp
          with_reducible rfl
        rotate_left
        · simp only [Act.put, List.setIfInBounds_toArray, List.set_cons_zero, List.set_cons_succ, i64_w, i32_w]
          rfl
        refine take_ (i := 4) (N := some 29) (v := ?_) (a' := ?_) #[true, true, true, true, true, false, false, false, false, false, false] rfl rfl (by kernel_rfl) (fun _ _ _ h => h) (Or.inl ⟨by rfl, ?_⟩) hHeld ?_ ?_
        rotate_left
        · rintro w' ⟨s0, s1⟩
          go_simp
          with_reducible rfl
        rotate_left
        · simp only [Act.put, List.setIfInBounds_toArray, List.set_cons_zero, List.set_cons_succ, i64_w, i32_w]
          rfl
        refine take_ (i := 5) (N := some 30) (v := ?_) (a' := ?_) #[true, true, true, true, true, true, false, false, false, false, false] rfl rfl (by kernel_rfl) (fun _ _ _ h => h) (Or.inl ⟨by rfl, ?_⟩) hHeld ?_ ?_
        rotate_left
        · rintro w' ⟨s0, s1⟩
          go_simp
          with_reducible rfl
        rotate_left
        · simp only [Act.put, List.setIfInBounds_toArray, List.set_cons_zero, List.set_cons_succ, i64_w, i32_w]
          rfl
        refine one_ (i := 6) (N := some 31) #[true, true, true, true, true, true, true, false, false, false, false] rfl rfl (by kernel_rfl) (by decide) (fun K hK => ?_)
        refine value_ (w1 := ?_) (v := ?_) (by rfl) rfl ?_ ?_
        rotate_left 2
        · go_simp
          constructor
          · rfl
          · rfl
        refine hK.out _ _ ⟨(blk_cell (blk_alloc (w := (w2.drewN nq).drew) HP2.out _) 5).trans rfl, (blk_cell (blk_alloc (w := (w2.drewN nq).drew) HX2.out _) 0).trans rfl⟩ (fun hHeld => ?_)
        clear hK K
        refine norm_ (a' := ?_) ?_ ?_
        rotate_left
        · show Act.put _ (some 31) _ = _
          simp only [Act.put, List.setIfInBounds_toArray, List.set_cons_zero, List.set_cons_succ, i64_w, i32_w]
          rfl
        refine one_ (i := 7) (N := some 32) #[true, true, true, true, true, true, true, true, false, false, false] rfl rfl (by kernel_rfl) (by decide) (fun K hK => ?_)
        refine Kd.R_append_step Kd.string (w0 := W) base (by rfl) (.tmp 29) (.tmp 31) 29 9 (.string ⟨#[]⟩) 16 rfl Tryd.underlying29 PB.info9 rfl (by decide) (by omega) (.slice Ao out.length co) out c [.string c] (fun _ => True) (fun _ => False) rfl rfl rfl (fun _ hk => hk.elim) (fun _ _ => trivial) ?aO ?aB ?aS ?aL ?_
        (case aO => exact HR2.out)
        (case aB => exact pw_below_drewN (HB2.out.mono hbW) _)
        (case aS => exact Nat.le_trans hbW HB2.out.size)
        (case aL => omega)
        intro v5 w5 ho hb5 hg5 hat5
        obtain ⟨A5, c5, rfl⟩ := Kd.R_slice ho
        rw [List.length_append, List.length_singleton] at ho hat5 ⊢
        have HP5 := Aside0.mk (blk_grown (g := p) (w := (w2.drewN nq).drew) HP2.out hg5 (fun e => (HO.out.far p e.symm).1 rfl))
        have HX5 := Aside0.mk (blk_grown (g := W.heap.size) (w := (w2.drewN nq).drew) HX2.out hg5 (fun e => Nat.lt_irrefl _ (hvl _ e.symm)))
        have HO5 := Aside0.mk ho
        have HB5 := Aside0.mk hb5
        have HG5 := Aside0.mk hg5
        have HAT5 := Aside0.mk hat5
        clear ho hb5 hg5 hat5
        have hc55 := (blk_cell HP5.out 5).trans rfl
        have hf55 := blk_frozen HP5.out 5
        refine hK.out _ _ ⟨(blk_cell HP5.out 5).trans rfl, (blk_cell HX5.out 0).trans rfl⟩ (fun hHeld => ?_)
        clear hK K
        refine norm_ (a' := ?_) ?_ ?_
        rotate_left
        · show Act.put _ (some 32) _ = _
          simp only [Act.put, List.setIfInBounds_toArray, List.set_cons_zero, List.set_cons_succ, i64_w, i32_w]
          rfl
        refine pure_ (i := 8) (N := some 33) (v := ?_) (a' := ?_) #[true, true, true, true, true, true, true, true, true, false, false] rfl rfl (by kernel_rfl) (fun _ _ _ h => h) (Or.inl ⟨by rfl, ?_⟩) ?_ ?_
        rotate_left
        · intro w'
          go_simp
          with_reducible rfl
        rotate_left
        · simp only [Act.put, List.setIfInBounds_toArray, List.set_cons_zero, List.set_cons_succ, i64_w, i32_w]
          rfl
        refine pure_ (i := 9) (N := some 34) (v := ?_) (a' := ?_) #[true, true, true, true, true, true, true, true, true, true, false] rfl rfl (by kernel_rfl) (fun _ _ _ h => h) (Or.inl ⟨by rfl, ?_⟩) ?_ ?_
        rotate_left
        · intro w'
          go_simp
          with_reducible rfl
        rotate_left
        · simp only [Act.put, List.setIfInBounds_toArray, List.set_cons_zero, List.set_cons_succ, i64_w, i32_w]
          rfl
        refine last_ (i := 10) (N := none) #[true, true, true, true, true, true, true, true, true, true, true] rfl rfl (by kernel_rfl) (by decide) (fun K hK => ?_)
        refine skip_ (w1 := ?_) (by rfl) rfl ?_ ?_
        rotate_left
        · go_simp
          rfl
        refine hK.out _ _ ?_
        clear hK K
        refine done_ (by kernel_rfl) ?_
        go_wp2
        have hh2 : ¬ hasS c out = true := by first | assumption | simp_all
        have ho := HOUT.out
        rw [if_neg hh2] at ho
        subst ho
        refine bodyPost_ret (results_none rfl _ _ _) rfl ?_
        have hO2 := HO.out.below HB2.out
        have h25 : w2.heap.size ≤ w5.heap.size := HG5.out.size
        have hfar : ∀ k, (Value.slice A5 (out.length + 1) c5).ownBlock = some k → k ≠ p ∧ k ≠ mb := fun k hk => by
          rcases HAT5.out with e | ⟨b, e, hb⟩
          · exact HO.out.far k (e ▸ hk)
          · rw [e] at hk
            injection hk with hk
            subst hk
            have hb' : w2.heap.size ≤ b := hb
            have h1 := HB2.out.size
            obtain ⟨D, hD, _⟩ := HO.out.map
            have h2 := hD.lt
            exact ⟨by omega, by omega⟩
        refine ⟨_, rfl, ⟨HO.out.pos, HO.out.mpos, HO.out.pm, blk_put (cs := #[.slice Aa al.length ca, Ah, Ab, .int .i64 sz, .map (some mb), .slice Ao out.length co]) HP5.out 5 _ rfl, ?_, ?_, hfar⟩, HB5.out.setCell (p := ⟨p, 5, none⟩) HO.out.pos _⟩
        · obtain ⟨D, hD, hS⟩ := hO2.map
          exact ⟨D, World.ownsMap.setCell (World.ownsMap.kept (w := (w2.drewN nq).drew) hD HG5.out (fun e => (HO.out.far mb e.symm).2 rfl)) (a := ⟨p, 5, none⟩) (Ne.symm HO.out.pm) _, hS⟩
        · exact Kd.R_mono (Kd.R_far (p := ⟨p, 5, none⟩) (Kd.R_reok rfl HO5.out (fun k hk => (hfar k hk).1)) (fun k hk => hk) _) (fun _ _ => trivial)
    | some n =>
      have hidx : alIdx c al = (n : Int) := by unfold alIdx; rw [ha]
      have hn := al_lt c al n ha
      have hcz : c.size ≤ 1000000 := by
        rcases hg.1 with e | e
        · rw [ha] at e; cases e
        · exact e
      rw [hidx] at HIX
      have hh := HH.out
      rw [ha] at hh
      have HH2 := Aside0.mk hh
      clear hidx ha hh HH
      go_wp2_with fail
      refine HIX.out.mono ?_
      rintro e w2 ⟨rfl, hb2⟩
      have hpk2 := blk_below HP1.out hb2
      have hxk2 := blk_below HX1.out hb2
      have hB2 := below_step HB1.out hb2
      have hp40 := (blk_cell hpk2 4).trans rfl
      have hp00 := (blk_cell hpk2 0).trans rfl
      have hx20 := (blk_cell hxk2 0).trans rfl
      have HB2 := Aside0.mk hB2
      have HP2 := Aside0.mk hpk2
      have HX2 := Aside0.mk hxk2
      have HO2 := Aside0.mk (HO.out.below hB2)
      clear hb2 hpk2 hxk2 hB2 hx0 hp0 hxf
      obtain ⟨D, hD, hS⟩ := HO2.out.map
      have hlk : ∀ m, (Instr.lookup 43 (.map (some mb)) (.string c) false).run Tryd.prog (w2.drewN m) = .ok (.int .i64 (if hasS c op = true then 1 else 0)) (w2.drewN m) := fun m => by
        have hDm : (w2.drewN m).ownsMap Tryd.prog 9 (plainElem Tryd.prog 3) mb op.length D := hD
        obtain ⟨cv, hr, hat, _⟩ := hDm.lookup_int lawS Tryd.underlying43 Tryd.underlying3 (zeroI _) (key := .string c) (Go.WideMaps.keyOf_string_mk Tryd.underlying9 (by unfold maxLen; omega))
        rw [hS c] at hat
        injection hat with hat
        injection hat with _ hat
        rw [hr, hat]
      cases hs : hasS c op with
      | true =>
        rw [hs, if_pos rfl] at hlk
        have hnz : decide ((n : Int) < 0) = false := decide_eq_false (by omega)
        have ho := HH2.out
        simp only [hs, if_true] at ho
        injection ho with ho
        injection ho with ho1 ho2
        subst ho1 ho2
        clear hD hS IH HH2
        go_wp2
        go_quiet (fail)
        go_wp2
        refine bodyPost_ret (results_none rfl _ _ _) rfl ?_
        have hb3 := pw_below_drewN HB2.out nq
        have hfin := HO.out.below hb3
        first
          | exact ⟨_, rfl, hfin, hb3.mono (by have := HB.out.size; omega)⟩
          | exact ⟨rfl, ⟨_, hfin⟩, hb3.mono (by have := HB.out.size; omega)⟩
          | (subst hb0; exact ⟨rfl, ⟨_, hfin⟩, hb3.mono HB.out.size⟩)
      | false =>
        rw [hs] at hlk
        have hnz : decide ((n : Int) < 0) = false := decide_eq_false (by omega)
        have ho := HH2.out
        simp only [hs] at ho
        have HH3 := Aside0.mk ho
        have HDD := Aside0.mk hD
        have HSS := Aside0.mk hS
        clear hD hS HH2 ho
        go_wp2
        go_quiet (fail)
        go_wp2
        obtain ⟨w9, hr9, hD9, hg9⟩ := (show ((w2.drewN nq).drew).ownsMap Tryd.prog 9 (plainElem Tryd.prog 3) mb op.length D from HDD.out).update lawS Tryd.underlying43 (key := .string c) (val := .int .i64 1) (by have := hg.2.1; unfold maxLen; omega) (Go.WideMaps.keyOf_string_mk Tryd.underlying9 (by unfold maxLen; omega)) (plainElem_int Tryd.underlying3 (by decide))
        have HP9 := Aside0.mk (blk_grown (g := p) (w := (w2.drewN nq).drew) HP2.out hg9 (fun e => HO.out.pm (Option.some.inj e)))
        have HG9 := Aside0.mk hg9
        have HD9 := Aside0.mk hD9
        clear hg9 hD9
        refine start_ (n := 8) (S := fun w' => w'.cell? ⟨p, 4, none⟩ = some (.map (some mb)) ∧ w'.cell? ⟨W.heap.size, 0, none⟩ = some (.string c) ∧ (Instr.lookup 43 (.map (some mb)) (.string c) false).run Tryd.prog w' = .ok (.int .i64 0) w') (ds := [7]) #[false, false, false, false, false, false, false, false] (by kernel_rfl) rfl rfl ⟨hp40, hx20, (hlk (nq + 1))⟩ (fun hHeld => ?_)
        refine pure_ (i := 0) (N := some 42) (v := ?_) (a' := ?_) #[true, false, false, false, false, false, false, false] rfl rfl (by kernel_rfl) (fun _ _ _ h => h) (Or.inl ⟨by rfl, ?_⟩) ?_ ?_
        rotate_left
        · intro w'
          go_simp
          with_reducible rfl
        rotate_left
        · simp only [Act.put, List.setIfInBounds_toArray, List.set_cons_zero, List.set_cons_succ, i64_w, i32_w]
          rfl
        refine pure_ (i := 1) (N := some 43) (v := ?_) (a' := ?_) #[true, true, false, false, false, false, false, false] rfl rfl (by kernel_rfl) (fun _ _ _ h => h) (Or.inl ⟨by rfl, ?_⟩) ?_ ?_
        rotate_left
        · intro w'
          go_simp
          with_reducible rfl
        rotate_left
        · simp only [Act.put, List.setIfInBounds_toArray, List.set_cons_zero, List.set_cons_succ, i64_w, i32_w]
          rfl
        refine pure_ (i := 2) (N := some 44) (v := ?_) (a' := ?_) #[true, true, true, false, false, false, false, false] rfl rfl (by kernel_rfl) (fun _ _ _ h => h) (Or.inl ⟨by rfl, ?_⟩) ?_ ?_
        rotate_left
        · intro w'
          go_simp
          with_reducible rfl
        rotate_left
        · simp only [Act.put, List.setIfInBounds_toArray, List.set_cons_zero, List.set_cons_succ, i64_w, i32_w]
          rfl
        refine take_ (i := 3) (N := some 45) (v := ?_) (a' := ?_) #[true, true, true, true, false, false, false, false] rfl rfl (by kernel_rfl) (fun _ _ _ h => h) (Or.inl ⟨by rfl, ?_⟩) hHeld ?_ ?_
        rotate_left
        · rintro w' ⟨s0, s1, s2⟩
          go_simp
          with_reducible rfl
        rotate_left
        · simp only [Act.put, List.setIfInBounds_toArray, List.set_cons_zero, List.set_cons_succ, i64_w, i32_w]
          rfl
        refine take_ (i := 4) (N := some 46) (v := ?_) (a' := ?_) #[true, true, true, true, true, false, false, false] rfl rfl (by kernel_rfl) (fun _ _ _ h => h) (Or.inl ⟨by rfl, ?_⟩) hHeld ?_ ?_
        rotate_left
        · rintro w' ⟨s0, s1, s2⟩
          go_simp
          with_reducible rfl
        rotate_left
        · simp only [Act.put, List.setIfInBounds_toArray, List.set_cons_zero, List.set_cons_succ, i64_w, i32_w]
          rfl
        refine take_ (i := 5) (N := some 47) (v := ?_) (a' := ?_) #[true, true, true, true, true, true, false, false] rfl rfl (by kernel_rfl) (fun _ _ _ h => h) (Or.inl ⟨by rfl, ?_⟩) hHeld ?_ ?_
        rotate_left
        · rintro w' ⟨s0, s1, s2⟩
          go_simp
          with_reducible rfl
        rotate_left
        · simp only [Act.put, List.setIfInBounds_toArray, List.set_cons_zero, List.set_cons_succ, i64_w, i32_w]
          rfl
        refine pure_ (i := 6) (N := some 48) (v := ?_) (a' := ?_) #[true, true, true, true, true, true, true, false] rfl rfl (by kernel_rfl) (fun _ _ _ h => h) (Or.inl ⟨by rfl, ?_⟩) ?_ ?_
        rotate_left
        · intro w'
          go_simp
          with_reducible rfl
        rotate_left
        · simp only [Act.put, List.setIfInBounds_toArray, List.set_cons_zero, List.set_cons_succ, i64_w, i32_w]
          rfl
        refine last_ (i := 7) (N := none) #[true, true, true, true, true, true, true, true] rfl rfl (by kernel_rfl) (by decide) (fun K hK => ?_)
        refine skip_ (w1 := w9) (by rfl) rfl ?_ ?_
        · go_simp
          rw [show wrap64 1 = 1 from Go.IntWalk.wrap64_in 1 (by omega)]
          rw [show (Instr.mapUpdate 43 (.map (some mb)) (.string c) (.int .i64 1)).run Tryd.prog (w2.drewN (nq + 1)) = .ok () w9 from hr9]
          rfl
        refine hK.out _ _ ?_
        clear hK K
        refine done_ (by kernel_rfl) ?_
        have hbW : base ≤ W.heap.size := by have := HB.out.size; omega
        have hmW : mb < W.heap.size := by obtain ⟨D0, hD0, _⟩ := HO.out.map; exact hD0.lt
        have hB9 : Below base W w9 := Below.grown (pw_below_drewN (HB2.out.mono hbW) (nq + 1)) HG9.out (Nat.le_trans hbW HB2.out.size) (fun k e => by cases e; exact HO.out.mpos)
        have hO9 : Op w9 base p mb (.slice Aa al.length ca) Ah Ab sz (.slice Ao out.length co) (c :: op) out := by
          refine ⟨HO.out.pos, HO.out.mpos, HO.out.pm, HP9.out, ⟨_, HD9.out, HSS.out.put ?_ c⟩, ?_, HO.out.far⟩
          · exact HDD.out.isMap
          · exact Kd.R_mono (Kd.R_step (Kd.R_tight2 rfl HO2.out.row) (fun k ho hl => HG9.out.block k hl (fun e => (HO.out.far k ho.1.symm).2 (Option.some.inj e)))) (fun k ho => ho.2)
        obtain ⟨ad, A1, c1, rfl, _, hx1, hl1, hr1⟩ := at_al HAL.out (n : Int) (by omega) (by omega)
        rw [Int.toNat_natCast] at hx1
        replace hx1 := pw_cell_below (hb0 ▸ HB.out.trans hB9) hx1
        have hp90 := (blk_cell HP9.out 0).trans rfl
        have hgl : al.getD n zAlias = rd_al al (n : Int) := by unfold rd_al; rw [Int.toNat_natCast]
        have HH4 := Aside0.mk (hgl ▸ HH3.out)
        clear hgl HH3
        obtain ⟨ys, hys⟩ : ∃ ys, ys = (rd_al al (n : Int)).f1 := ⟨_, rfl⟩
        rw [← hys] at hx1 hl1 hr1 HH4
        obtain ⟨hyl, hf⟩ : ys.length ≤ 1000000 ∧ ys.foldlM (fun st x => openO al k st x) (c :: op, out) = some (op', out') := by
          have h4 := HH4.out
          split at h4
          · cases ‹false = true›
          · split at h4
            · exact ⟨‹_›, h4⟩
            · cases h4
        have HF := Aside0.mk hf
        clear hf HH4
        have HR1 := Aside0.mk hr1
        have HB9 := Aside0.mk hB9
        have HO9 := Aside0.mk hO9
        clear hr1 hB9 hO9 hys
        go_wp2
        go_loopw [59] (fun v59 wr => ∃ (j : Nat) (vo1 : Value) (op1 out1 : List ByteArray), v59 = .int .i64 j ∧ j ≤ ys.length ∧ Aside0 (Op wr base p mb (.slice (some ad) al.length ca) Ah Ab sz vo1 op1 out1 ∧ Below base W wr ∧ (ys.drop j).foldlM (fun st x => openO al k st x) (op1, out1) = some (op', out'))) (fun v59 _ => ys.length - (intOf v59).toNat)
        case atStart => exact ⟨0, _, _, _, rfl, Nat.zero_le _, ⟨HO9.out, HB9.out, HF.out⟩⟩
        case round =>
          obtain ⟨j, vo1, op1, out1, rfl, hj, HI⟩ := hrel
          by_cases hlt : j < ys.length
          · obtain ⟨ady, rfl, hy⟩ := Kd.at_string HR1.out (j : Int) (by omega) (by omega)
            rw [Int.toNat_natCast] at hy
            have hyr := pw_cell_below (hb0 ▸ HB.out.trans HI.out.2.1) hy
            have hrd : rdOf ByteArray.empty ys (j : Int) = ys[j] := by unfold rdOf; simp [List.getD_eq_getElem?_getD, hlt]
            rw [hrd] at hyr
            clear hy hrd
            obtain ⟨⟨op2, out2⟩, hs1, hs2⟩ : ∃ st, openO al k (op1, out1) ys[j] = some st ∧ (ys.drop (j + 1)).foldlM (fun st x => openO al k st x) st = some (op', out') := by
              have h2 := HI.out.2.2
              rw [List.drop_eq_getElem_cons hlt, List.foldlM_cons] at h2
              exact Option.bind_eq_some_iff.1 h2
            have HS2 := Aside0.mk hs2
            have HCL := Aside0.mk (IH.out wr vo1 op1 out1 op2 out2 ys[j] (HB.out.trans HI.out.2.1) HI.out.1 hs1)
            obtain ⟨y, hyy⟩ : ∃ y, y = ys[j] := ⟨_, rfl⟩
            rw [← hyy] at hyr HCL
            clear hs1 hs2 hyy
            go_wp2_with (go_at_call 14; refine HCL.out.mono ?_; rintro e w3 ⟨vo2, rfl, hO3, hB3⟩; have HO3 := Aside0.mk hO3; have HB3 := Aside0.mk hB3; clear hO3 hB3)
            go_roundw
            case rel => exact ⟨j + 1, vo2, op2, out2, by go_num, by omega, ⟨HO3.out, HI.out.2.1.trans HB3.out, HS2.out⟩⟩
            case measure => simp [intOf]; omega
          · obtain rfl : j = ys.length := by omega
            go_wp2
            refine bodyPost_end (results_none rfl _ _ _) rfl ?_
            have h2 := HI.out.2.2
            rw [List.drop_length] at h2
            obtain ⟨rfl, rfl⟩ : op1 = op' ∧ out1 = out' := by
              have := Option.some.inj h2
              exact ⟨congrArg Prod.fst this, congrArg Prod.snd this⟩
            exact ⟨_, rfl, HI.out.1, HI.out.2.1⟩
end Go.Proofs.YtjkaicfakccmiaaDoor.Hand
