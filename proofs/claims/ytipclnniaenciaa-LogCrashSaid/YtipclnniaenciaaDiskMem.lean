/- A disk in memory: files in a map, the writes since the last Sync in a row, the disk's own cells. -/
import Derived.Test.YtipclnniaenciaaDiskMod
namespace Go.Proofs.Ytipclnniaenciaa.Hand
open Go.RowKit Go.Maps Go.Proofs.YtipclnniaenciaaW.PrintWords Go.Proofs.YtipclnniaenciaaW.PrintLast Go.Proofs.YtipclnniaenciaaW.PrintMore
set_option linter.unusedVariables false
set_option linter.unusedSimpArgs false
section
variable {α β : Type}
theorem look_map (g : α → β) (s : ByteArray) (L : List (ByteArray × α)) : look s (L.map (fun x => (x.1, g x.2))) = (look s L).map g := by
  induction L with
  | nil => rfl
  | cons x L ih =>
    unfold look at ih ⊢
    rw [List.map_cons, List.find?_cons, List.find?_cons]
    by_cases e : x.1 = s
    · rw [decide_eq_true e]
      rfl
    · rw [decide_eq_false e]
      exact ih
theorem del_map (g : α → β) (s : ByteArray) (L : List (ByteArray × α)) : del s (L.map (fun x => (x.1, g x.2))) = (del s L).map (fun x => (x.1, g x.2)) := by
  unfold del
  rw [List.filter_map]
  rfl
theorem put_map (g : α → β) (s : ByteArray) (x : α) (L : List (ByteArray × α)) : put s (g x) (L.map (fun x => (x.1, g x.2))) = (put s x L).map (fun x => (x.1, g x.2)) := by
  unfold put
  rw [del_map]
  rfl
theorem keys_map (g : α → β) (L : List (ByteArray × α)) : (L.map (fun x => (x.1, g x.2))).map (·.1) = L.map (·.1) := by
  rw [List.map_map]
  rfl
theorem mem_put {s : ByteArray} {x : α} {L : List (ByteArray × α)} {p : ByteArray × α} (h : p ∈ put s x L) : p = (s, x) ∨ p ∈ L := by
  unfold put at h
  rcases List.mem_cons.1 h with h | h
  · exact .inl h
  · exact .inr ((del_sub s L).mem h)
end
/-- An entry in memory: its name, its value, its bytes. -/
abbrev En := ByteArray × (Value × By)
/-- Block b holds the files fs, in blocks of F. -/
def FilesAt (w : World) (F : Nat → Prop) (b : Nat) (fs : Fs) : Prop :=
  ∃ L : List En, MapAt w b (L.map (fun x => (x.1, x.2.1))) ∧ (L.map (fun x => (x.1, x.2.2))).Perm fs ∧ (∀ x ∈ L, RB w 0 F x.2.1 x.2.2) ∧ F b
section
variable {w w' : World} {F G : Nat → Prop} {b : Nat} {fs : Fs}
theorem FilesAt.lt (h : FilesAt w F b fs) : b < w.heap.size := by
  obtain ⟨L, h1, _⟩ := h
  exact h1.lt
theorem FilesAt.isMap (h : FilesAt w F b fs) : ∃ es clock, w.heap[b]? = some (.map es clock) := by
  obtain ⟨L, h1, _⟩ := h
  exact h1.map
theorem FilesAt.ne {g : Nat} {cs : Array Value} {t : TypeId} {fz : Nat × Nat} (h : FilesAt w F b fs) (hg : w.heap[g]? = some (.cells cs t fz)) : b ≠ g := by
  obtain ⟨L, h1, _⟩ := h
  exact h1.ne hg
theorem FilesAt.step (h : FilesAt w F b fs) (hm : ∀ k, F k → k < w.heap.size → w'.heap[k]? = w.heap[k]?) : FilesAt w' F b fs := by
  obtain ⟨L, h1, h2, h3, h4⟩ := h
  exact ⟨L, h1.move (hm b h4 h1.lt), h2, fun x hx => Kd.R_step (h3 x hx) hm, h4⟩
theorem FilesAt.mono (h : FilesAt w F b fs) (hG : ∀ k, F k → G k) : FilesAt w G b fs := by
  obtain ⟨L, h1, h2, h3, h4⟩ := h
  exact ⟨L, h1, h2, fun x hx => Kd.R_mono (h3 x hx) hG, hG b h4⟩
theorem FilesAt.perm {fs' : Fs} (h : FilesAt w F b fs) (hp : fs.Perm fs') : FilesAt w F b fs' := by
  obtain ⟨L, h1, h2, h3⟩ := h
  exact ⟨L, h1, h2.trans hp, h3⟩
theorem FilesAt.below (h : FilesAt w F b fs) (hb : Below w.heap.size w w') : FilesAt w' F b fs := h.step (fun k _ hk => hb.block k hk)
theorem FilesAt.chg {S : Nat → Prop} (h : FilesAt w F b fs) (hk : Chg S w w') (hd : ∀ k, F k → ¬ S k) : FilesAt w' F b fs := h.step (fun k hF hlt => hk.block k hlt (hd k hF))
/-- What is written is no map and no row of bytes of it. -/
theorem FilesAt.bound (h : FilesAt w F b fs) : FilesAt w (fun k => F k ∧ k < w.heap.size ∧ (k = b ∨ ∃ cs, w.heap[k]? = some (.cells cs 5 (0, 0)))) b fs := by
  obtain ⟨L, h1, h2, h3, h4⟩ := h
  refine ⟨L, h1, h2, fun x hx => Kd.R_mono (Kd.R_bound (h3 x hx)) (fun k hk => ?_), h4, h1.lt, .inl rfl⟩
  obtain ⟨hk1, _, hk2, q, hq, hc⟩ := hk
  refine ⟨hk1, hk2, .inr ?_⟩
  have : q = 5 := by
    rcases List.mem_cons.1 hq with h | h
    · exact h
    · cases h
  subst this
  exact hc
theorem FilesAt.other {cs : Array Value} {t g : Nat} (h : FilesAt w F b fs) (hg : w.heap[g]? = some (.cells cs t (0, 0))) (ht : t ≠ 5) (hk : Chg (fun k => k = g) w w') : FilesAt w' F b fs := by
  refine (h.bound.chg hk ?_).mono (fun k hk => hk.1)
  rintro k ⟨_, _, hq | ⟨cs', hq⟩⟩ rfl
  · exact h.ne hg hq.symm
  · rw [hg] at hq
    injection hq with hq
    injection hq with _ hq
    exact ht hq
theorem FilesAt.otherMap {g : Nat} {es : Array MapEntry} {cl : Nat} (h : FilesAt w F b fs) (hg : w.heap[g]? = some (.map es cl)) (hne : b ≠ g) (hk : Chg (fun k => k = g) w w') : FilesAt w' F b fs := by
  refine (h.bound.chg hk ?_).mono (fun k hk => hk.1)
  rintro k ⟨_, _, hq | ⟨cs', hq⟩⟩ rfl
  · exact hne hq.symm
  · rw [hg] at hq
    cases hq
theorem FilesAt.nodup (h : FilesAt w F b fs) : (fs.map (·.1)).Nodup := by
  obtain ⟨L, ⟨_, _, _, hn⟩, h2, _⟩ := h
  rw [keys_map] at hn
  have := (h2.map (·.1)).nodup_iff.1 (by rw [keys_map]; exact hn)
  exact this
/-- What a name's value is. -/
theorem FilesAt.at_ (h : FilesAt w F b fs) (s : ByteArray) (hs : s.size ≤ maxLen) :
    ∃ v : Value, (∀ w', (∀ k, F k → k < w.heap.size → w'.heap[k]? = w.heap[k]?) → (Instr.lookup 54 (.map (some b)) (.string s) false).run Try.prog w' = .ok v w' ∧ (Instr.lookup 54 (.map (some b)) (.string s) true).run Try.prog w' = .ok (.tuple #[v, .bool (look s fs).isSome]) w') ∧ RB w 0 F v (bytesAt s fs) := by
  have hn := h.nodup
  obtain ⟨L, h1, h2, h3, h4⟩ := h
  have hl : look s fs = (look s L).map (·.2) := by
    have hn2 : ((L.map (fun x => (x.1, x.2.2))).map (·.1)).Nodup := (h2.map (·.1)).nodup_iff.2 hn
    rw [← look_perm hn2 h2]
    exact look_map (fun y : Value × By => y.2) s L
  refine ⟨((look s L).map (·.1)).getD (.slice none 0 0), fun w' hw => ?_, ?_⟩
  · have hM := h1.move (w' := w') (hw b h4 h1.lt)
    have e1 := hM.look hs
    have e2 := hM.look_ok hs
    rw [look_map (fun y : Value × By => y.1)] at e1 e2
    refine ⟨e1, ?_⟩
    rw [e2, hl]
    simp
  · unfold bytesAt
    rw [hl]
    cases e : look s L with
    | none => exact Kd.R_nil _ _ _ _ _
    | some y => exact h3 _ (look_mem e)
theorem FilesAt.len (h : FilesAt w F b fs) (ty : TypeId) : (Builtin.len_ #[54] ty #[.map (some b)]).run Try.prog w = .ok (.int .i64 fs.length) w := by
  obtain ⟨L, h1, h2, _⟩ := h
  have := h1.len ty
  rw [List.length_map] at this
  rw [← h2.length_eq, List.length_map]
  exact this
theorem FilesAt.store (h : FilesAt w F b fs) {s : ByteArray} (hs : s.size ≤ maxLen) (hl : fs.length < maxLen) {v : Value} {x : By} (hv : RB w 0 F v x) :
    ∃ w', (Instr.mapUpdate 54 (.map (some b)) (.string s) v).run Try.prog w = .ok () w' ∧ FilesAt w' F b (put s x fs) ∧ Chg (fun k => k = b) w w' ∧ w'.heap.size = w.heap.size := by
  obtain ⟨L, h1, h2, h3, h4⟩ := h
  obtain ⟨es, clock, hmb⟩ := h1.map
  obtain ⟨w', hrun, hM, hg, hsz⟩ := h1.store hs (by rw [List.length_map, ← List.length_map (f := fun x : En => (x.1, x.2.2)), h2.length_eq]; exact hl) v
  refine ⟨w', hrun, ⟨put s (v, x) L, ?_, ?_, ?_, h4⟩, Chg.of_grown hg (fun k hk => .inl (by injection hk with hk; exact hk.symm)), hsz⟩
  · rw [← put_map (fun y : Value × By => y.1)]
    exact hM
  · rw [← put_map (fun y : Value × By => y.2)]
    exact put_perm h2
  · intro y hy
    have : RB w 0 F y.2.1 y.2.2 := by
      rcases mem_put hy with rfl | hy
      · exact hv
      · exact h3 y hy
    exact Kd.R_mono (Kd.R_grown (R_nomap this hmb) hg (fun k hk e => hk.2 (by injection e))) (fun k hk => hk.1)
theorem FilesAt.drop (h : FilesAt w F b fs) {s : ByteArray} (hs : s.size ≤ maxLen) (ty : TypeId) :
    ∃ w', (Builtin.delete_ #[54, 9] ty #[.map (some b), .string s]).run Try.prog w = .ok (.tuple #[]) w' ∧ FilesAt w' F b (del s fs) ∧ Chg (fun k => k = b) w w' ∧ w'.heap.size = w.heap.size := by
  obtain ⟨L, h1, h2, h3, h4⟩ := h
  obtain ⟨es, clock, hmb⟩ := h1.map
  obtain ⟨w', hrun, hM, hg, hsz⟩ := h1.drop hs ty
  refine ⟨w', hrun, ⟨del s L, ?_, ?_, ?_, h4⟩, Chg.of_grown hg (fun k hk => .inl (by injection hk with hk; exact hk.symm)), hsz⟩
  · rw [← del_map (fun y : Value × By => y.1)]
    exact hM
  · rw [← del_map (fun y : Value × By => y.2)]
    exact del_perm h2
  · intro y hy
    exact Kd.R_mono (Kd.R_grown (R_nomap (h3 y ((del_sub s L).mem hy)) hmb) hg (fun k hk e => hk.2 (by injection e))) (fun k hk => hk.1)
theorem FilesAt.made (w : World) (F : Nat → Prop) (hF : F w.heap.size) : FilesAt (w.alloc (.map #[] 0)) F w.heap.size [] :=
  ⟨[], MapAt.made w, .refl _, (fun _ h => by cases h), hF⟩
end
def kWr : Kd Wr := Kd.iso (Kd.pair (Kd.int .i64) (Kd.pair Kd.string (Kd.pair Kd.string (Kd.slice 5 (Kd.int .u8))))) (fun w => (w.kind, w.frm, w.onto, numsL w.b))
/-- The disk at block p: its maps in bn and bs, its loose writes in vl. -/
structure DskAt (w : World) (F : Nat → Prop) (p bn bs : Nat) (vl : Value) (st : DSt) : Prop where
  cell : w.heap[p]? = some (.cells #[.map (some bn), .map (some bs), vl, .int .i64 st.room, .int .i64 st.fuse, .bool st.down] 57 (0, 0))
  now : FilesAt w F bn st.now
  sure : FilesAt w F bs st.sure
  ne : bn ≠ bs
  loose : kWr.R 61 w 0 F vl st.loose
  fp : F p
def Dsk (w : World) (F : Nat → Prop) (p : Nat) (st : DSt) : Prop := ∃ bn bs vl, DskAt w F p bn bs vl st
section
variable {w w' : World} {F G : Nat → Prop} {p bn bs : Nat} {vl : Value} {st : DSt}
theorem DskAt.step (h : DskAt w F p bn bs vl st) (hm : ∀ k, F k → k < w.heap.size → w'.heap[k]? = w.heap[k]?) : DskAt w' F p bn bs vl st :=
  ⟨(hm p h.fp (blk_lt h.cell)).trans h.cell, h.now.step hm, h.sure.step hm, h.ne, Kd.R_step h.loose hm, h.fp⟩
theorem DskAt.mono (h : DskAt w F p bn bs vl st) (hG : ∀ k, F k → G k) : DskAt w G p bn bs vl st :=
  ⟨h.cell, h.now.mono hG, h.sure.mono hG, h.ne, Kd.R_mono h.loose hG, hG p h.fp⟩
theorem DskAt.below (h : DskAt w F p bn bs vl st) (hb : Below w.heap.size w w') : DskAt w' F p bn bs vl st := h.step (fun k _ hk => hb.block k hk)
theorem Dsk.step (h : Dsk w F p st) (hm : ∀ k, F k → k < w.heap.size → w'.heap[k]? = w.heap[k]?) : Dsk w' F p st := by
  obtain ⟨bn, bs, vl, h⟩ := h
  exact ⟨bn, bs, vl, h.step hm⟩
theorem Dsk.mono (h : Dsk w F p st) (hG : ∀ k, F k → G k) : Dsk w G p st := by
  obtain ⟨bn, bs, vl, h⟩ := h
  exact ⟨bn, bs, vl, h.mono hG⟩
theorem Dsk.below (h : Dsk w F p st) (hb : Below w.heap.size w w') : Dsk w' F p st := h.step (fun k _ hk => hb.block k hk)
theorem Dsk.chg {S : Nat → Prop} (h : Dsk w F p st) (hk : Chg S w w') (hd : ∀ k, F k → k < w.heap.size → ¬ S k) : Dsk w' F p st := h.step (fun k hF hlt => hk.block k hlt (hd k hF hlt))
end
end Go.Proofs.Ytipclnniaenciaa.Hand
