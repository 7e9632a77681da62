/- bin.Decode, walked by hand. -/
import Derived.Test.YtljhfaneepehcaaDoorEnvGood
import Derived.Test.YtljhfaneepehcaaDoorBinReader
import Derived.Test.YtljhfaneepehcaaDoorBinList
import Derived.Laws.IdiomCopy
namespace Go.Proofs.YtljhfaneepehcaaDoor.Hand
open Go.RowKit Go.Proofs.YtljhfaneepehcaaDoorW.PrintWords Go.Proofs.YtljhfaneepehcaaDoorW.PrintLast Go.Proofs.YtljhfaneepehcaaDoorW.PrintMore Go.Proofs.YtljhfaneepehcaaDoor.Addr
set_option linter.unusedVariables false
set_option linter.unusedSimpArgs false
theorem size_msg (W : World) : (sizeOf 25).run Tryd.prog W = .ok 9 W := by kernel_rfl
theorem store_msg (W : World) (g : Nat) (cs : Array Value) (hb : W.heap[g]? = some (.cells cs 25 (0, 0))) (hcs : cs.size = 9) (v0 v1 v2 v3 v4 v5 v6 v7 v8 : Value)
    (h1 : ∀ v ∈ [v0, v1, v2, v3, v4, v5, v6, v7, v8], v.oneCell' = true) :
    (Instr.storeAt 25 (.pointer (some ⟨g, 0, none⟩)) (.agg #[v0, v1, v2, v3, v4, v5, v6, v7, v8])).run Tryd.prog W = .ok () (W.setCells g 0 [v0, v1, v2, v3, v4, v5, v6, v7, v8]) := by
  have hst : (storeCells ⟨g, 0, none⟩ [v0, v1, v2, v3, v4, v5, v6, v7, v8] 0).run Tryd.prog W = .ok () (W.setCells g (0 + 0) [v0, v1, v2, v3, v4, v5, v6, v7, v8]) :=
    run_storeCells_cells g 0 [v0, v1, v2, v3, v4, v5, v6, v7, v8] 0 W (fun j hj => by rw [show 0 + 0 + j = j by omega, blk_cell hb j, Array.getElem?_eq_getElem (by simp at hj; omega)]; rfl) (fun j hj => by rw [show 0 + 0 + j = j by omega]; exact blk_frozen hb j) h1
  unfold Instr.storeAt
  simp only [storeVar, Sem.run_bind, size_msg, Result.andThen_ok]
  exact hst
theorem put_msg {W : World} {g : Nat} {u0 u1 u2 u3 u4 u5 u6 u7 u8 : Value} {T : Nat} (hb : W.heap[g]? = some (.cells #[u0, u1, u2, u3, u4, u5, u6, u7, u8] T (0, 0))) (v0 v1 v2 v3 v4 v5 v6 v7 v8 : Value) :
    (W.setCells g 0 [v0, v1, v2, v3, v4, v5, v6, v7, v8]).heap[g]? = some (.cells #[v0, v1, v2, v3, v4, v5, v6, v7, v8] T (0, 0)) := by
  have h0 : (W.setCell ⟨g, 0, none⟩ v0).heap[g]? = some (.cells #[v0, u1, u2, u3, u4, u5, u6, u7, u8] T (0, 0)) := blk_put (cs := #[u0, u1, u2, u3, u4, u5, u6, u7, u8]) hb 0 v0 rfl
  have h1 : ((W.setCell ⟨g, 0, none⟩ v0).setCell ⟨g, 1, none⟩ v1).heap[g]? = some (.cells #[v0, v1, u2, u3, u4, u5, u6, u7, u8] T (0, 0)) := blk_put (cs := #[v0, u1, u2, u3, u4, u5, u6, u7, u8]) h0 1 v1 rfl
  have h2 : (((W.setCell ⟨g, 0, none⟩ v0).setCell ⟨g, 1, none⟩ v1).setCell ⟨g, 2, none⟩ v2).heap[g]? = some (.cells #[v0, v1, v2, u3, u4, u5, u6, u7, u8] T (0, 0)) := blk_put (cs := #[v0, v1, u2, u3, u4, u5, u6, u7, u8]) h1 2 v2 rfl
  have h3 : ((((W.setCell ⟨g, 0, none⟩ v0).setCell ⟨g, 1, none⟩ v1).setCell ⟨g, 2, none⟩ v2).setCell ⟨g, 3, none⟩ v3).heap[g]? = some (.cells #[v0, v1, v2, v3, u4, u5, u6, u7, u8] T (0, 0)) := blk_put (cs := #[v0, v1, v2, u3, u4, u5, u6, u7, u8]) h2 3 v3 rfl
  have h4 : (((((W.setCell ⟨g, 0, none⟩ v0).setCell ⟨g, 1, none⟩ v1).setCell ⟨g, 2, none⟩ v2).setCell ⟨g, 3, none⟩ v3).setCell ⟨g, 4, none⟩ v4).heap[g]? = some (.cells #[v0, v1, v2, v3, v4, u5, u6, u7, u8] T (0, 0)) := blk_put (cs := #[v0, v1, v2, v3, u4, u5, u6, u7, u8]) h3 4 v4 rfl
  have h5 : ((((((W.setCell ⟨g, 0, none⟩ v0).setCell ⟨g, 1, none⟩ v1).setCell ⟨g, 2, none⟩ v2).setCell ⟨g, 3, none⟩ v3).setCell ⟨g, 4, none⟩ v4).setCell ⟨g, 5, none⟩ v5).heap[g]? = some (.cells #[v0, v1, v2, v3, v4, v5, u6, u7, u8] T (0, 0)) := blk_put (cs := #[v0, v1, v2, v3, v4, u5, u6, u7, u8]) h4 5 v5 rfl
  have h6 : (((((((W.setCell ⟨g, 0, none⟩ v0).setCell ⟨g, 1, none⟩ v1).setCell ⟨g, 2, none⟩ v2).setCell ⟨g, 3, none⟩ v3).setCell ⟨g, 4, none⟩ v4).setCell ⟨g, 5, none⟩ v5).setCell ⟨g, 6, none⟩ v6).heap[g]? = some (.cells #[v0, v1, v2, v3, v4, v5, v6, u7, u8] T (0, 0)) := blk_put (cs := #[v0, v1, v2, v3, v4, v5, u6, u7, u8]) h5 6 v6 rfl
  have h7 : ((((((((W.setCell ⟨g, 0, none⟩ v0).setCell ⟨g, 1, none⟩ v1).setCell ⟨g, 2, none⟩ v2).setCell ⟨g, 3, none⟩ v3).setCell ⟨g, 4, none⟩ v4).setCell ⟨g, 5, none⟩ v5).setCell ⟨g, 6, none⟩ v6).setCell ⟨g, 7, none⟩ v7).heap[g]? = some (.cells #[v0, v1, v2, v3, v4, v5, v6, v7, u8] T (0, 0)) := blk_put (cs := #[v0, v1, v2, v3, v4, v5, v6, u7, u8]) h6 7 v7 rfl
  have h8 : (((((((((W.setCell ⟨g, 0, none⟩ v0).setCell ⟨g, 1, none⟩ v1).setCell ⟨g, 2, none⟩ v2).setCell ⟨g, 3, none⟩ v3).setCell ⟨g, 4, none⟩ v4).setCell ⟨g, 5, none⟩ v5).setCell ⟨g, 6, none⟩ v6).setCell ⟨g, 7, none⟩ v7).setCell ⟨g, 8, none⟩ v8).heap[g]? = some (.cells #[v0, v1, v2, v3, v4, v5, v6, v7, v8] T (0, 0)) := blk_put (cs := #[v0, v1, v2, v3, v4, v5, v6, v7, u8]) h7 8 v8 rfl
  exact h8
theorem wpList_store_msg (W : World) {ops : Array Oper} {rest : List Oper} {o : Oper} {a : Act} {Q : Exit → Act → World → Prop} (hg : o.guard = none) (p x : Operand) (hop : o.op = .store 25 p x) (g : Nat) (cs : Array Value) (hb : W.heap[g]? = some (.cells cs 25 (0, 0))) (hcs : cs.size = 9) (v0 v1 v2 v3 v4 v5 v6 v7 v8 : Value)
    (hp : a.eval p = .pointer (some ⟨g, 0, none⟩)) (hx : a.eval x = .agg #[v0, v1, v2, v3, v4, v5, v6, v7, v8]) (h1 : ∀ v ∈ [v0, v1, v2, v3, v4, v5, v6, v7, v8], v.oneCell' = true)
    (h : wpList Tryd.prog ops Q rest (a.put o.dst undef) (W.setCells g 0 [v0, v1, v2, v3, v4, v5, v6, v7, v8])) : wpList Tryd.prog ops Q (o :: rest) a W := by
  refine wpList_plain hg fun K hK => ?_
  have hst := store_msg W g cs hb hcs v0 v1 v2 v3 v4 v5 v6 v7 v8 h1
  unfold Oper.wp
  simp [execOp, hop, hp, hx, hst, Result.andThen]
  exact hK _ _ h
structure Dec0 (w W : World) (A : Option Addr) (c : Nat) (st : List Int × Bool) : Prop where
  rd : Rd w W (w.heap.size + 1) A c st
  msg : W.heap[w.heap.size]? = some (.cells #[.int .i64 0, .int .i64 0, .int .i64 0, .int .i64 0, .int .i64 0, .string ⟨#[]⟩, .slice none 0 0, .slice none 0 0, .slice none 0 0] 25 (0, 0))
  box : W.heap[w.heap.size + 1 + 1]? = some (.cells #[.pointer (some ⟨w.heap.size + 1, 0, none⟩)] 47 (0, 0))
theorem Rd.alloc {w0 W : World} {p : Nat} {A : Option Addr} {c : Nat} {st : List Int × Bool} (h : Rd w0 W p A c st) (o : Obj) : Rd w0 (W.alloc o) p A c st := ⟨h.pos, blk_alloc h.cell o, h.row, h.cap, h.low.alloc h.low.size o, h.oct⟩
theorem Dec0.alloc {w W : World} {A : Option Addr} {c : Nat} {st : List Int × Bool} (h : Dec0 w W A c st) (o : Obj) : Dec0 w (W.alloc o) A c st := ⟨h.rd.alloc o, blk_alloc h.msg o, blk_alloc h.box o⟩
theorem Dec0.lt {w W : World} {A : Option Addr} {c : Nat} {st : List Int × Bool} (h : Dec0 w W A c st) : w.heap.size + 1 + 1 < W.heap.size := blk_lt h.box
theorem Dec0.step {w W W' : World} {A A' : Option Addr} {c c' : Nat} {st st' : List Int × Bool} (h : Dec0 w W A c st) (hr : Rd w W' (w.heap.size + 1) A' c' st') (hk : Kept W W' (fun k => k = w.heap.size + 1)) : Dec0 w W' A' c' st' :=
  ⟨hr, (hk.2 _ (blk_lt h.msg) (by show ¬ w.heap.size = w.heap.size + 1; omega)).trans h.msg, (hk.2 _ (blk_lt h.box) (by show ¬ w.heap.size + 1 + 1 = w.heap.size + 1; omega)).trans h.box⟩
theorem Dec0.set {w W : World} {A : Option Addr} {c g j : Nat} {st : List Int × Bool} (h : Dec0 w W A c st) (v : Value) (hg : w.heap.size + 1 + 1 < g) : Dec0 w (W.setCell ⟨g, j, none⟩ v) A c st := by
  have f : ∀ k, k ≠ g → (W.setCell ⟨g, j, none⟩ v).heap[k]? = W.heap[k]? := fun k hk => Below.heap_setCell W ⟨g, j, none⟩ v k hk
  exact ⟨⟨h.rd.pos, (f _ (by omega)).trans h.rd.cell, h.rd.row, h.rd.cap, h.rd.low.setCell (p := ⟨g, j, none⟩) (by show w.heap.size ≤ g; omega) _, h.rd.oct⟩, (f _ (by omega)).trans h.msg, (f _ (by omega)).trans h.box⟩
theorem low_cells {w W : World} (h : Below w.heap.size w W) (g : Nat) (vs : List Value) (hg : w.heap.size ≤ g) : Below w.heap.size w (W.setCells g 0 vs) := by
  obtain ⟨e1, e2, e3, e4⟩ := setCells_same g vs 0 W
  exact ⟨e1.trans h.os, e2.trans h.tape, e3.trans h.output, by rw [e4]; exact h.size, fun k hk => (setCells_far vs 0 k (by omega)).trans (h.block k hk)⟩
theorem Dec0.num {w : World} {st st' : List Int × Bool} {q : Int} {size : Nat} (hs : size ≤ 6) (hq : (q, st') = numS size st) (W : World) (A : Option Addr) (c : Nat) (h : Dec0 w W A c st) :
    Calls Tryd.prog 19 #[.pointer (some ⟨w.heap.size + 1, 0, none⟩), .int .i64 size] W fun e w' => ∃ A2 c2, e = .returned (.int .i64 q) ∧ Dec0 w w' A2 c2 st' ∧ Kept W w' (fun k => k = w.heap.size + 1) := by
  refine (rnum_calls size hs w W _ A c st h.rd).mono ?_
  rintro e w' ⟨A2, c2, rfl, hr, hk⟩
  rw [← hq] at hr ⊢
  exact ⟨A2, c2, rfl, h.step hr hk, hk⟩
theorem Dec0.num6 {w : World} {st st' : List Int × Bool} {q : Int} (hq : (q, st') = numS 6 st) (W : World) (A : Option Addr) (c : Nat) (h : Dec0 w W A c st) :
    Calls Tryd.prog 19 #[.pointer (some ⟨w.heap.size + 1, 0, none⟩), .int .i64 6] W fun e w' => ∃ A2 c2, e = .returned (.int .i64 q) ∧ Dec0 w w' A2 c2 st' ∧ Kept W w' (fun k => k = w.heap.size + 1) := Dec0.num (size := 6) (by omega) hq W A c h
theorem Dec0.text {w : World} {st st' : List Int × Bool} {q : ByteArray} (hq : (q, st') = textS st) (W : World) (A : Option Addr) (c : Nat) (h : Dec0 w W A c st) :
    Calls Tryd.prog 20 #[.pointer (some ⟨w.heap.size + 1, 0, none⟩)] W fun e w' => ∃ A2 c2, e = .returned (.string q) ∧ Dec0 w w' A2 c2 st' ∧ Kept W w' (fun k => k = w.heap.size + 1) := by
  refine (rtext_calls w W _ A c st h.rd).mono ?_
  rintro e w' ⟨A2, c2, rfl, hr, hk⟩
  rw [← hq] at hr ⊢
  exact ⟨A2, c2, rfl, h.step hr hk, hk⟩
theorem Dec0.cells {w W : World} {A : Option Addr} {c g : Nat} {st : List Int × Bool} (h : Dec0 w W A c st) (vs : List Value) (hg : w.heap.size + 1 + 1 < g) : Dec0 w (W.setCells g 0 vs) A c st := by
  obtain ⟨e1, e2, e3, e4⟩ := setCells_same g vs 0 W
  have hlow : Below w.heap.size w (W.setCells g 0 vs) := ⟨e1.trans h.rd.low.os, e2.trans h.rd.low.tape, e3.trans h.rd.low.output, by rw [e4]; exact h.rd.low.size, fun k hk => (setCells_far vs 0 k (by omega)).trans (h.rd.low.block k hk)⟩
  exact ⟨⟨h.rd.pos, (setCells_far vs 0 _ (by omega)).trans h.rd.cell, h.rd.row, h.rd.cap, hlow, h.rd.oct⟩, (setCells_far vs 0 _ (by omega)).trans h.msg, (setCells_far vs 0 _ (by omega)).trans h.box⟩
structure DecV where
  q : Int
  m : Int × Int × Int × Int × Int × ByteArray × List ByteArray × List Int × List ByteArray
  s : List Int × Bool
/-- What the reader yields, one by one. -/
def decS (l0 : List Int) : DecV :=
  let d4 := numS 1 (l0, false)
  let d5 := numS 6 d4.2
  let d6 := numS 6 d5.2
  let d7 := numS 6 d6.2
  let d8 := numS 6 d7.2
  let d9 := numS 6 d8.2
  let d10 := textS d9.2
  let d11 := listS textS 2 d10.2
  let d12 := listS (numS 1) 2 d11.2
  let d13 := listS textS 4 d12.2
  ⟨d4.1, (d5.1, d6.1, d7.1, d8.1, d9.1, d10.1, d11.1, d12.1, d13.1), d13.2⟩
def noMsg : Int × Int × Int × Int × Int × ByteArray × List ByteArray × List Int × List ByteArray × Int := (0, 0, 0, 0, 0, ⟨#[]⟩, [], [], [], 2)
def okByte (x : Int) : Bool := decide (0 ≤ x) && decide (x < 256)
def bin_Decode.f (k : Nat) (l0 : List Int) : Option (Int × Int × Int × Int × Int × ByteArray × List ByteArray × List Int × List ByteArray × Int) :=
  if l0.all okByte = true then
    if (decS l0).s.2 = true ∨ (decS l0).q ≠ 2 ∨ (decS l0).s.1 ≠ [] then some noMsg
    else (env_Good.f k (decS l0).m.1 (decS l0).m.2.1 (decS l0).m.2.2.1 (decS l0).m.2.2.2.1 (decS l0).m.2.2.2.2.1 (decS l0).m.2.2.2.2.2.1 (decS l0).m.2.2.2.2.2.2.1 (decS l0).m.2.2.2.2.2.2.2.1 (decS l0).m.2.2.2.2.2.2.2.2).bind fun g =>
      if g = true then some ((decS l0).m.1, (decS l0).m.2.1, (decS l0).m.2.2.1, (decS l0).m.2.2.2.1, (decS l0).m.2.2.2.2.1, (decS l0).m.2.2.2.2.2.1, (decS l0).m.2.2.2.2.2.2.1, (decS l0).m.2.2.2.2.2.2.2.1, (decS l0).m.2.2.2.2.2.2.2.2, 0) else some noMsg
  else none
theorem env_GoodD.mono (a0 a1 a2 a3 a4 : Int) (a5 : ByteArray) (l6 : List ByteArray) (l7 : List Int) (l8 : List ByteArray) (k : Nat) : LeO (env_Good.f k a0 a1 a2 a3 a4 a5 l6 l7 l8) (env_Good.f (k + 1) a0 a1 a2 a3 a4 a5 l6 l7 l8) := by
  intro r h
  unfold env_Good.f at h ⊢
  obtain ⟨i, h1, h⟩ := Option.bind_eq_some_iff.1 h
  refine Option.bind_eq_some_iff.2 ⟨i, h1, ?_⟩
  split at h
  · rw [if_pos ‹_›]; exact h
  rw [if_neg ‹_›]
  obtain ⟨b, h2, h⟩ := Option.bind_eq_some_iff.1 h
  refine Option.bind_eq_some_iff.2 ⟨b, h2, ?_⟩
  split at h
  case isFalse => rw [if_neg ‹_›]; exact h
  rw [if_pos ‹_›]
  split at h
  case isFalse => rw [if_neg ‹_›]; exact h
  rw [if_pos ‹_›]
  split at h
  case isFalse => rw [if_neg ‹_›]; exact h
  rw [if_pos ‹_›]
  obtain ⟨i3, h3, h⟩ := Option.bind_eq_some_iff.1 h
  refine Option.bind_eq_some_iff.2 ⟨i3, h3, ?_⟩
  split at h
  · rw [if_pos ‹_›]; exact h
  rw [if_neg ‹_›]
  split at h
  case isFalse => rw [if_neg ‹_›]; exact h
  rw [if_pos ‹_›]
  obtain ⟨i4, h4, h⟩ := Option.bind_eq_some_iff.1 h
  refine Option.bind_eq_some_iff.2 ⟨i4, h4, ?_⟩
  split at h
  · rw [if_pos ‹_›]; exact h
  rw [if_neg ‹_›]
  exact PB.dots_Good.mono _ _ _ h
theorem bin_Decode.mono (l0 : List Int) (k : Nat) : LeO (bin_Decode.f k l0) (bin_Decode.f (k + 1) l0) := by
  intro r h
  unfold bin_Decode.f at h ⊢
  split at h
  case isFalse => cases h
  rw [if_pos ‹_›]
  split at h
  · rw [if_pos ‹_›]; exact h
  rw [if_neg ‹_›]
  obtain ⟨g, h1, h⟩ := Option.bind_eq_some_iff.1 h
  exact Option.bind_eq_some_iff.2 ⟨g, env_GoodD.mono _ _ _ _ _ _ _ _ _ _ _ h1, h⟩
set_option maxHeartbeats 16000000 in
set_option maxRecDepth 100000 in
theorem bin_Decode.calls (k : Nat) (A0 : Option Addr) (c0 : Nat) (l0 : List Int) (r1 r2 r3 r4 r5 : Int) (r6 : ByteArray) (r7 : List ByteArray) (r8 : List Int) (r9 : List ByteArray) (r10 : Int) (w : World) (hr0 : Kd.C (Kd.int .u8) w A0 l0.length l0) (hc0 : l0.length ≤ c0) (h : bin_Decode.f k l0 = some (r1, r2, r3, r4, r5, r6, r7, r8, r9, r10)) :
    Calls Tryd.prog 11 #[.slice A0 l0.length c0] w fun e w' => ∃ v6_ v7_ v8_ : Value, e = .returned (.tuple #[.agg #[.int .i64 r1, .int .i64 r2, .int .i64 r3, .int .i64 r4, .int .i64 r5, .string r6, v6_, v7_, v8_], .int .i64 r10]) ∧ Kd.R Kd.string 9 w' w.heap.size (fun k_ => some k_ ≠ (v8_ : Value).ownBlock) v6_ r7 ∧ Kd.R (Kd.int .i64) 3 w' w.heap.size (fun _ => True) v7_ r8 ∧ Kd.R Kd.string 9 w' w.heap.size (fun k_ => some k_ ≠ (v6_ : Value).ownBlock) v8_ r9 ∧ Below w.heap.size w w' := by
  have hby : l0.all okByte = true := by
    unfold bin_Decode.f at h
    split at h
    · assumption
    · cases h
  have ho : Bytes l0 := fun x hx => by
    have := List.all_eq_true.1 hby x hx
    unfold okByte at this
    rw [Bool.and_eq_true, decide_eq_true_iff, decide_eq_true_iff] at this
    exact this
  unfold bin_Decode.f at h
  rw [if_pos hby] at h
  have HH := Aside0.mk h
  clear h hby
  have HR0 := Aside0.mk hr0
  have HO := Aside0.mk ho
  clear hr0 ho
  go_enter Tryd.func11, Tryd.ntmps11
  go_wp2_with fail
  have hb3 : Below w.heap.size w (((w.alloc (.cells #[.int .i64 0, .int .i64 0, .int .i64 0, .int .i64 0, .int .i64 0, .string ⟨#[]⟩, .slice none 0 0, .slice none 0 0, .slice none 0 0] 25)).alloc (.cells #[.slice A0 l0.length c0, .bool false] 49)).alloc (.cells #[.pointer (some ⟨w.heap.size + 1, 0, none⟩)] 47)) := ((Below.refl _ _).alloc (Nat.le_refl _) _).alloc (by simp) _ |>.alloc (by simp; omega) _
  have hR3 : Rd w (((w.alloc (.cells #[.int .i64 0, .int .i64 0, .int .i64 0, .int .i64 0, .int .i64 0, .string ⟨#[]⟩, .slice none 0 0, .slice none 0 0, .slice none 0 0] 25)).alloc (.cells #[.slice A0 l0.length c0, .bool false] 49)).alloc (.cells #[.pointer (some ⟨w.heap.size + 1, 0, none⟩)] 47)) (w.heap.size + 1) A0 c0 (l0, false) := by
    refine ⟨by omega, ?_, HR0.out, hc0, hb3, HO.out⟩
    have := blk_alloc (blk_new (w.alloc (.cells #[.int .i64 0, .int .i64 0, .int .i64 0, .int .i64 0, .int .i64 0, .string ⟨#[]⟩, .slice none 0 0, .slice none 0 0, .slice none 0 0] 25)) (.cells #[.slice A0 l0.length c0, .bool false] 49)) (.cells #[.pointer (some ⟨w.heap.size + 1, 0, none⟩)] 47)
    simpa using this
  have hm3 : (((w.alloc (.cells #[.int .i64 0, .int .i64 0, .int .i64 0, .int .i64 0, .int .i64 0, .string ⟨#[]⟩, .slice none 0 0, .slice none 0 0, .slice none 0 0] 25)).alloc (.cells #[.slice A0 l0.length c0, .bool false] 49)).alloc (.cells #[.pointer (some ⟨w.heap.size + 1, 0, none⟩)] 47)).heap[w.heap.size]? = some (.cells #[.int .i64 0, .int .i64 0, .int .i64 0, .int .i64 0, .int .i64 0, .string ⟨#[]⟩, .slice none 0 0, .slice none 0 0, .slice none 0 0] 25 (0, 0)) := blk_alloc (blk_alloc (blk_new w _) _) _
  have hx3 : (((w.alloc (.cells #[.int .i64 0, .int .i64 0, .int .i64 0, .int .i64 0, .int .i64 0, .string ⟨#[]⟩, .slice none 0 0, .slice none 0 0, .slice none 0 0] 25)).alloc (.cells #[.slice A0 l0.length c0, .bool false] 49)).alloc (.cells #[.pointer (some ⟨w.heap.size + 1, 0, none⟩)] 47)).heap[w.heap.size + 1 + 1]? = some (.cells #[.pointer (some ⟨w.heap.size + 1, 0, none⟩)] 47 (0, 0)) := by
    have := blk_new ((w.alloc (.cells #[.int .i64 0, .int .i64 0, .int .i64 0, .int .i64 0, .int .i64 0, .string ⟨#[]⟩, .slice none 0 0, .slice none 0 0, .slice none 0 0] 25)).alloc (.cells #[.slice A0 l0.length c0, .bool false] 49)) (.cells #[.pointer (some ⟨w.heap.size + 1, 0, none⟩)] 47)
    simpa using this
  have HM3 := Aside0.mk hm3
  have HX3 := Aside0.mk hx3
  refine (rnum_calls 1 (by omega) w _ (w.heap.size + 1) A0 c0 (l0, false) hR3).mono ?_
  clear hb3 hR3 hm3 hx3
  rintro e w4 ⟨A4, c4, rfl, hR4, hK4⟩
  obtain ⟨⟨q4, s4⟩, hq4⟩ : ∃ q, q = numS 1 (l0, false) := ⟨_, rfl⟩
  rw [← hq4] at hR4
  rw [← hq4]
  have HQ4 := Aside0.mk hq4
  have hm4 := (hK4.2 _ (blk_lt HM3.out) (by show ¬ w.heap.size = w.heap.size + 1; omega)).trans HM3.out
  have hx4 := (hK4.2 _ (blk_lt HX3.out) (by show ¬ w.heap.size + 1 + 1 = w.heap.size + 1; omega)).trans HX3.out
  have hcx4 := (blk_cell hx4 0).trans rfl
  have HM4 := Aside0.mk hm4
  have HX4 := Aside0.mk hx4
  have HRD4 := Aside0.mk hR4
  clear hq4 hm4 hx4 hR4 hK4
  obtain ⟨⟨q5, s5⟩, hq5⟩ : ∃ q, q = numS 6 s4 := ⟨_, rfl⟩
  obtain ⟨⟨q6, s6⟩, hq6⟩ : ∃ q, q = numS 6 s5 := ⟨_, rfl⟩
  obtain ⟨⟨q7, s7⟩, hq7⟩ : ∃ q, q = numS 6 s6 := ⟨_, rfl⟩
  obtain ⟨⟨q8, s8⟩, hq8⟩ : ∃ q, q = numS 6 s7 := ⟨_, rfl⟩
  obtain ⟨⟨q9, s9⟩, hq9⟩ : ∃ q, q = numS 6 s8 := ⟨_, rfl⟩
  obtain ⟨⟨q10, s10⟩, hq10⟩ : ∃ q, q = textS s9 := ⟨_, rfl⟩
  have HN5 := Aside0.mk (Dec0.num6 (w := w) hq5)
  have HN6 := Aside0.mk (Dec0.num6 (w := w) hq6)
  have HN7 := Aside0.mk (Dec0.num6 (w := w) hq7)
  have HN8 := Aside0.mk (Dec0.num6 (w := w) hq8)
  have HN9 := Aside0.mk (Dec0.num6 (w := w) hq9)
  have HN10 := Aside0.mk (Dec0.text (w := w) hq10)
  have HQ5 := Aside0.mk hq5
  have HQ6 := Aside0.mk hq6
  have HQ7 := Aside0.mk hq7
  have HQ8 := Aside0.mk hq8
  have HQ9 := Aside0.mk hq9
  have HQ10 := Aside0.mk hq10
  clear hq5 hq6 hq7 hq8 hq9 hq10
  have n0_ : Aside0 (Dec0 w w4.drew A4 c4 s4) := ⟨⟨⟨HRD4.out.pos, HRD4.out.cell, HRD4.out.row, HRD4.out.cap, below_drew HRD4.out.low, HRD4.out.oct⟩, HM4.out, HX4.out⟩⟩
  go_wp2_with fail
  clear HRD4 HM4 HX4 HM3 HX3
  refine start_ (n := 15) (S := fun w' => w'.cell? ⟨w.heap.size + 1 + 1, 0, none⟩ = some (.pointer (some ⟨w.heap.size + 1, 0, none⟩))) (ds := [14]) #[false, false, false, false, false, false, false, false, false, false, false, false, false, false, false] (by kernel_rfl) rfl rfl ((blk_cell n0_.out.box 0).trans rfl) (fun hHeld => ?_)
  refine take_ (i := 0) (N := some 12) (v := ?_) (a' := ?_) #[true, false, false, false, false, false, false, false, false, false, false, false, false, false, false] rfl rfl (by kernel_rfl) (fun _ _ _ h => h) (Or.inl ⟨by rfl, ?_⟩) hHeld ?_ ?_
  rotate_left
  · intro w' s0
    go_simp
    with_reducible rfl
  rotate_left
  · simp only [Act.put, List.setIfInBounds_toArray, List.set_cons_zero, List.set_cons_succ, i64_w, i32_w]
    rfl
  refine take_ (i := 2) (N := some 14) (v := ?_) (a' := ?_) #[true, false, true, false, false, false, false, false, false, false, false, false, false, false, false] rfl rfl (by kernel_rfl) (fun _ _ _ h => h) (Or.inl ⟨by rfl, ?_⟩) hHeld ?_ ?_
  rotate_left
  · intro w' s0
    go_simp
    with_reducible rfl
  rotate_left
  · simp only [Act.put, List.setIfInBounds_toArray, List.set_cons_zero, List.set_cons_succ, i64_w, i32_w]
    rfl
  refine take_ (i := 4) (N := some 16) (v := ?_) (a' := ?_) #[true, false, true, false, true, false, false, false, false, false, false, false, false, false, false] rfl rfl (by kernel_rfl) (fun _ _ _ h => h) (Or.inl ⟨by rfl, ?_⟩) hHeld ?_ ?_
  rotate_left
  · intro w' s0
    go_simp
    with_reducible rfl
  rotate_left
  · simp only [Act.put, List.setIfInBounds_toArray, List.set_cons_zero, List.set_cons_succ, i64_w, i32_w]
    rfl
  refine take_ (i := 6) (N := some 18) (v := ?_) (a' := ?_) #[true, false, true, false, true, false, true, false, false, false, false, false, false, false, false] rfl rfl (by kernel_rfl) (fun _ _ _ h => h) (Or.inl ⟨by rfl, ?_⟩) hHeld ?_ ?_
  rotate_left
  · intro w' s0
    go_simp
    with_reducible rfl
  rotate_left
  · simp only [Act.put, List.setIfInBounds_toArray, List.set_cons_zero, List.set_cons_succ, i64_w, i32_w]
    rfl
  refine take_ (i := 8) (N := some 20) (v := ?_) (a' := ?_) #[true, false, true, false, true, false, true, false, true, false, false, false, false, false, false] rfl rfl (by kernel_rfl) (fun _ _ _ h => h) (Or.inl ⟨by rfl, ?_⟩) hHeld ?_ ?_
  rotate_left
  · intro w' s0
    go_simp
    with_reducible rfl
  rotate_left
  · simp only [Act.put, List.setIfInBounds_toArray, List.set_cons_zero, List.set_cons_succ, i64_w, i32_w]
    rfl
  refine take_ (i := 10) (N := some 22) (v := ?_) (a' := ?_) #[true, false, true, false, true, false, true, false, true, false, true, false, false, false, false] rfl rfl (by kernel_rfl) (fun _ _ _ h => h) (Or.inl ⟨by rfl, ?_⟩) hHeld ?_ ?_
  rotate_left
  · intro w' s0
    go_simp
    with_reducible rfl
  rotate_left
  · simp only [Act.put, List.setIfInBounds_toArray, List.set_cons_zero, List.set_cons_succ, i64_w, i32_w]
    rfl
  refine join_ (σ := Option Addr × Nat × Nat) 1 #[true, true, true, true, true, true, true, true, true, true, true, true, true, true, false] (fun s_ => [(13, .int .i64 q5), (15, .int .i64 q6), (17, .int .i64 q7), (19, .int .i64 q8), (21, .int .i64 q9), (23, .string q10), (6, .pointer (some ⟨s_.2.2, 0, none⟩)), (24, .agg #[.int .i64 q5, .int .i64 q6, .int .i64 q7, .int .i64 q8, .int .i64 q9, .string q10, .slice none 0 0, .slice none 0 0, .slice none 0 0])]) (fun s_ w' => (w'.cell? ⟨w.heap.size + 1 + 1, 0, none⟩ = some (.pointer (some ⟨w.heap.size + 1, 0, none⟩))) ∧ (Aside0 (Dec0 w w' s_.1 s_.2.1 s10)) ∧ (Aside0 (w'.heap[s_.2.2]? = some (.cells #[.int .i64 0, .int .i64 0, .int .i64 0, .int .i64 0, .int .i64 0, .string ⟨#[]⟩, .slice none 0 0, .slice none 0 0, .slice none 0 0] 25 (0, 0)) ∧ w.heap.size + 1 + 1 < s_.2.2))) ?_ ?_
  rotate_left
  · intro hJ1_3_5_7_9_11_13
    refine join_ (σ := Option Addr × Nat × Nat) 2 #[true, true, true, true, true, true, true, true, true, true, true, true, true, false, false] (fun s_ => [(13, .int .i64 q5), (15, .int .i64 q6), (17, .int .i64 q7), (19, .int .i64 q8), (21, .int .i64 q9), (23, .string q10), (24, .agg #[.int .i64 q5, .int .i64 q6, .int .i64 q7, .int .i64 q8, .int .i64 q9, .string q10, .slice none 0 0, .slice none 0 0, .slice none 0 0])]) (fun s_ w' => (w'.cell? ⟨w.heap.size + 1 + 1, 0, none⟩ = some (.pointer (some ⟨w.heap.size + 1, 0, none⟩))) ∧ (Aside0 (Dec0 w w' s_.1 s_.2.1 s10))) ?_ ?_
    rotate_left
    · intro hJ1_3_5_7_9_11
      refine join_ (σ := Option Addr × Nat × Nat) 3 #[true, true, true, true, true, true, true, true, true, true, true, false, false, true, false] (fun s_ => [(13, .int .i64 q5), (15, .int .i64 q6), (17, .int .i64 q7), (19, .int .i64 q8), (21, .int .i64 q9), (6, .pointer (some ⟨s_.2.2, 0, none⟩))]) (fun s_ w' => (w'.cell? ⟨w.heap.size + 1 + 1, 0, none⟩ = some (.pointer (some ⟨w.heap.size + 1, 0, none⟩))) ∧ (Aside0 (Dec0 w w' s_.1 s_.2.1 s9)) ∧ (Aside0 (w'.heap[s_.2.2]? = some (.cells #[.int .i64 0, .int .i64 0, .int .i64 0, .int .i64 0, .int .i64 0, .string ⟨#[]⟩, .slice none 0 0, .slice none 0 0, .slice none 0 0] 25 (0, 0)) ∧ w.heap.size + 1 + 1 < s_.2.2))) ?_ ?_
      rotate_left
      · intro hJ1_3_5_7_9_13
        refine join_ (σ := Option Addr × Nat × Nat) 4 #[true, true, true, true, true, true, true, true, true, true, true, false, false, false, false] (fun s_ => [(13, .int .i64 q5), (15, .int .i64 q6), (17, .int .i64 q7), (19, .int .i64 q8), (21, .int .i64 q9)]) (fun s_ w' => (w'.cell? ⟨w.heap.size + 1 + 1, 0, none⟩ = some (.pointer (some ⟨w.heap.size + 1, 0, none⟩))) ∧ (Aside0 (Dec0 w w' s_.1 s_.2.1 s9))) ?_ ?_
        rotate_left
        · intro hJ1_3_5_7_9
          refine join_ (σ := Option Addr × Nat × Nat) 4 #[true, true, true, true, true, true, true, true, true, false, true, false, false, true, false] (fun s_ => [(13, .int .i64 q5), (15, .int .i64 q6), (17, .int .i64 q7), (19, .int .i64 q8), (6, .pointer (some ⟨s_.2.2, 0, none⟩))]) (fun s_ w' => (w'.cell? ⟨w.heap.size + 1 + 1, 0, none⟩ = some (.pointer (some ⟨w.heap.size + 1, 0, none⟩))) ∧ (Aside0 (Dec0 w w' s_.1 s_.2.1 s8)) ∧ (Aside0 (w'.heap[s_.2.2]? = some (.cells #[.int .i64 0, .int .i64 0, .int .i64 0, .int .i64 0, .int .i64 0, .string ⟨#[]⟩, .slice none 0 0, .slice none 0 0, .slice none 0 0] 25 (0, 0)) ∧ w.heap.size + 1 + 1 < s_.2.2))) ?_ ?_
          rotate_left
          · intro hJ1_3_5_7_13
            refine join_ (σ := Option Addr × Nat × Nat) 5 #[true, true, true, true, true, true, true, true, true, false, true, false, false, false, false] (fun s_ => [(13, .int .i64 q5), (15, .int .i64 q6), (17, .int .i64 q7), (19, .int .i64 q8)]) (fun s_ w' => (w'.cell? ⟨w.heap.size + 1 + 1, 0, none⟩ = some (.pointer (some ⟨w.heap.size + 1, 0, none⟩))) ∧ (Aside0 (Dec0 w w' s_.1 s_.2.1 s8))) ?_ ?_
            rotate_left
            · intro hJ1_3_5_7
              refine join_ (σ := Option Addr × Nat × Nat) 5 #[true, true, true, true, true, true, true, false, true, false, true, false, false, true, false] (fun s_ => [(13, .int .i64 q5), (15, .int .i64 q6), (17, .int .i64 q7), (6, .pointer (some ⟨s_.2.2, 0, none⟩))]) (fun s_ w' => (w'.cell? ⟨w.heap.size + 1 + 1, 0, none⟩ = some (.pointer (some ⟨w.heap.size + 1, 0, none⟩))) ∧ (Aside0 (Dec0 w w' s_.1 s_.2.1 s7)) ∧ (Aside0 (w'.heap[s_.2.2]? = some (.cells #[.int .i64 0, .int .i64 0, .int .i64 0, .int .i64 0, .int .i64 0, .string ⟨#[]⟩, .slice none 0 0, .slice none 0 0, .slice none 0 0] 25 (0, 0)) ∧ w.heap.size + 1 + 1 < s_.2.2))) ?_ ?_
              rotate_left
              · intro hJ1_3_5_13
                refine join_ (σ := Option Addr × Nat × Nat) 6 #[true, true, true, true, true, true, true, false, true, false, true, false, false, false, false] (fun s_ => [(13, .int .i64 q5), (15, .int .i64 q6), (17, .int .i64 q7)]) (fun s_ w' => (w'.cell? ⟨w.heap.size + 1 + 1, 0, none⟩ = some (.pointer (some ⟨w.heap.size + 1, 0, none⟩))) ∧ (Aside0 (Dec0 w w' s_.1 s_.2.1 s7))) ?_ ?_
                rotate_left
                · intro hJ1_3_5
                  refine join_ (σ := Option Addr × Nat × Nat) 6 #[true, true, true, true, true, false, true, false, true, false, true, false, false, true, false] (fun s_ => [(13, .int .i64 q5), (15, .int .i64 q6), (6, .pointer (some ⟨s_.2.2, 0, none⟩))]) (fun s_ w' => (w'.cell? ⟨w.heap.size + 1 + 1, 0, none⟩ = some (.pointer (some ⟨w.heap.size + 1, 0, none⟩))) ∧ (Aside0 (Dec0 w w' s_.1 s_.2.1 s6)) ∧ (Aside0 (w'.heap[s_.2.2]? = some (.cells #[.int .i64 0, .int .i64 0, .int .i64 0, .int .i64 0, .int .i64 0, .string ⟨#[]⟩, .slice none 0 0, .slice none 0 0, .slice none 0 0] 25 (0, 0)) ∧ w.heap.size + 1 + 1 < s_.2.2))) ?_ ?_
                  rotate_left
                  · intro hJ1_3_13
                    refine join_ (σ := Option Addr × Nat × Nat) 7 #[true, true, true, true, true, false, true, false, true, false, true, false, false, false, false] (fun s_ => [(13, .int .i64 q5), (15, .int .i64 q6)]) (fun s_ w' => (w'.cell? ⟨w.heap.size + 1 + 1, 0, none⟩ = some (.pointer (some ⟨w.heap.size + 1, 0, none⟩))) ∧ (Aside0 (Dec0 w w' s_.1 s_.2.1 s6))) ?_ ?_
                    rotate_left
                    · intro hJ1_3
                      refine join_ (σ := Option Addr × Nat × Nat) 7 #[true, true, true, false, true, false, true, false, true, false, true, false, false, true, false] (fun s_ => [(13, .int .i64 q5), (6, .pointer (some ⟨s_.2.2, 0, none⟩))]) (fun s_ w' => (w'.cell? ⟨w.heap.size + 1 + 1, 0, none⟩ = some (.pointer (some ⟨w.heap.size + 1, 0, none⟩))) ∧ (Aside0 (Dec0 w w' s_.1 s_.2.1 s5)) ∧ (Aside0 (w'.heap[s_.2.2]? = some (.cells #[.int .i64 0, .int .i64 0, .int .i64 0, .int .i64 0, .int .i64 0, .string ⟨#[]⟩, .slice none 0 0, .slice none 0 0, .slice none 0 0] 25 (0, 0)) ∧ w.heap.size + 1 + 1 < s_.2.2))) ?_ ?_
                      rotate_left
                      · intro hJ1_13
                        refine join_ (σ := Option Addr × Nat × Nat) 8 #[true, true, true, false, true, false, true, false, true, false, true, false, false, false, false] (fun s_ => [(13, .int .i64 q5)]) (fun s_ w' => (w'.cell? ⟨w.heap.size + 1 + 1, 0, none⟩ = some (.pointer (some ⟨w.heap.size + 1, 0, none⟩))) ∧ (Aside0 (Dec0 w w' s_.1 s_.2.1 s5))) ?_ ?_
                        rotate_left
                        · intro hJ1
                          refine join_ (σ := Option Addr × Nat × Nat) 8 #[true, false, true, false, true, false, true, false, true, false, true, false, false, true, false] (fun s_ => [(6, .pointer (some ⟨s_.2.2, 0, none⟩))]) (fun s_ w' => (w'.cell? ⟨w.heap.size + 1 + 1, 0, none⟩ = some (.pointer (some ⟨w.heap.size + 1, 0, none⟩))) ∧ (Aside0 (Dec0 w w' s_.1 s_.2.1 s4)) ∧ (Aside0 (w'.heap[s_.2.2]? = some (.cells #[.int .i64 0, .int .i64 0, .int .i64 0, .int .i64 0, .int .i64 0, .string ⟨#[]⟩, .slice none 0 0, .slice none 0 0, .slice none 0 0] 25 (0, 0)) ∧ w.heap.size + 1 + 1 < s_.2.2))) ?_ ?_
                          rotate_left
                          · intro hJ13
                            refine two_ (i := 1) (j := 13) (Ni := some 13) (Nj := some 6) #[true, true, true, false, true, false, true, false, true, false, true, false, false, false, false] #[true, false, true, false, true, false, true, false, true, false, true, false, false, true, false] rfl rfl rfl rfl (by kernel_rfl) (by decide) (by decide) (fun K hK => ?_) (fun K hK => ?_)
                            · skip
                              refine goes_ Tryd.func19 (by kernel_rfl) rfl #[(.pointer (some ⟨w.heap.size + 1, 0, none⟩)), .int .i64 6] (by rfl) rfl rfl (by simp only [List.map_toArray, List.map_cons, List.map_nil]; rfl) ?_
                              with_reducible refine ((HN5.out _ _ _ n0_.out)).mono ?_
                              rintro e w3 ⟨A3, c3, rfl, hd3, hk3⟩
                              refine ⟨_, rfl, ?_⟩
                              refine hK.out _ _ ((blk_cell hd3.box 0).trans rfl) (fun hHeld => ?_)
                              clear hK K
                              refine norm_ (a' := ?_) ?_ ?_
                              rotate_left
                              · show Act.put _ (some 13) _ = _
                                simp only [Act.put, List.setIfInBounds_toArray, List.set_cons_zero, List.set_cons_succ, i64_w, i32_w]
                                rfl
                              exact norm_ (by first | (simp only [putAll, Act.put, List.setIfInBounds_toArray, List.set_cons_zero, List.set_cons_succ]; done) | (simp only [putAll, Act.put, List.setIfInBounds_toArray, List.set_cons_zero, List.set_cons_succ]; rfl)) (hJ1 (A3, c3, 0) _ ⟨hHeld, ⟨hd3⟩⟩)
                            · skip
                              refine value_ (w1 := ?_) (v := ?_) (by rfl) rfl ?_ ?_
                              rotate_left 2
                              · go_simp
                                constructor
                                · rfl
                                · rfl
                              refine hK.out _ _ ((blk_cell (blk_alloc n0_.out.box _) 0).trans rfl) (fun hHeld => ?_)
                              clear hK K
                              refine norm_ (a' := ?_) ?_ ?_
                              rotate_left
                              · show Act.put _ (some 6) _ = _
                                simp only [Act.put, List.setIfInBounds_toArray, List.set_cons_zero, List.set_cons_succ, i64_w, i32_w]
                                rfl
                              exact norm_ (by first | (simp only [putAll, Act.put, List.setIfInBounds_toArray, List.set_cons_zero, List.set_cons_succ]; done) | (simp only [putAll, Act.put, List.setIfInBounds_toArray, List.set_cons_zero, List.set_cons_succ]; rfl)) (hJ13 (A4, c4, w4.drew.heap.size) _ ⟨hHeld, ⟨n0_.out.alloc _⟩, ⟨blk_new _ _, n0_.out.lt⟩⟩)
                          · skip
                            rintro ⟨A_, c_, g_⟩ W_ ⟨hS_, h0_, h1_⟩
                            have hHeld : W_.cell? ⟨w.heap.size + 1 + 1, 0, none⟩ = some (.pointer (some ⟨w.heap.size + 1, 0, none⟩)) := hS_
                            try clear n0_
                            have n0_ : Aside0 (Dec0 w W_ A_ c_ s4) := h0_
                            clear h0_
                            try clear n1_
                            have n1_ : Aside0 (W_.heap[g_]? = some (.cells #[.int .i64 0, .int .i64 0, .int .i64 0, .int .i64 0, .int .i64 0, .string ⟨#[]⟩, .slice none 0 0, .slice none 0 0, .slice none 0 0] 25 (0, 0)) ∧ w.heap.size + 1 + 1 < g_) := h1_
                            clear h1_
                            refine norm_ (a' := ?_) ?_ ?_
                            rotate_left
                            · simp only [putAll, Act.put, List.setIfInBounds_toArray, List.set_cons_zero, List.set_cons_succ]
                              rfl
                            refine one_ (i := 1) (N := some 13) #[true, true, true, false, true, false, true, false, true, false, true, false, false, true, false] rfl rfl (by kernel_rfl) (by decide) (fun K hK => ?_)
                            refine goes_ Tryd.func19 (by kernel_rfl) rfl #[(.pointer (some ⟨w.heap.size + 1, 0, none⟩)), .int .i64 6] (by rfl) rfl rfl (by simp only [List.map_toArray, List.map_cons, List.map_nil]; rfl) ?_
                            with_reducible refine ((HN5.out _ _ _ n0_.out)).mono ?_
                            rintro e w3 ⟨A3, c3, rfl, hd3, hk3⟩
                            refine ⟨_, rfl, ?_⟩
                            refine hK.out _ _ ((blk_cell hd3.box 0).trans rfl) (fun hHeld => ?_)
                            clear hK K
                            refine norm_ (a' := ?_) ?_ ?_
                            rotate_left
                            · show Act.put _ (some 13) _ = _
                              simp only [Act.put, List.setIfInBounds_toArray, List.set_cons_zero, List.set_cons_succ, i64_w, i32_w]
                              rfl
                            exact norm_ (by first | (simp only [putAll, Act.put, List.setIfInBounds_toArray, List.set_cons_zero, List.set_cons_succ]; done) | (simp only [putAll, Act.put, List.setIfInBounds_toArray, List.set_cons_zero, List.set_cons_succ]; rfl)) (hJ1_13 (A3, c3, g_) _ ⟨hHeld, ⟨hd3⟩, ⟨(hk3.2 _ (blk_lt n1_.out.1) (by have := n1_.out.2; show ¬ g_ = w.heap.size + 1; omega)).trans n1_.out.1, n1_.out.2⟩⟩)
                        · skip
                          rintro ⟨A_, c_, g_⟩ W_ ⟨hS_, h0_⟩
                          have hHeld : W_.cell? ⟨w.heap.size + 1 + 1, 0, none⟩ = some (.pointer (some ⟨w.heap.size + 1, 0, none⟩)) := hS_
                          try clear n0_
                          have n0_ : Aside0 (Dec0 w W_ A_ c_ s5) := h0_
                          clear h0_
                          refine norm_ (a' := ?_) ?_ ?_
                          rotate_left
                          · simp only [putAll, Act.put, List.setIfInBounds_toArray, List.set_cons_zero, List.set_cons_succ]
                            rfl
                          refine two_ (i := 3) (j := 13) (Ni := some 15) (Nj := some 6) #[true, true, true, true, true, false, true, false, true, false, true, false, false, false, false] #[true, true, true, false, true, false, true, false, true, false, true, false, false, true, false] rfl rfl rfl rfl (by kernel_rfl) (by decide) (by decide) (fun K hK => ?_) (fun K hK => ?_)
                          · skip
                            refine goes_ Tryd.func19 (by kernel_rfl) rfl #[(.pointer (some ⟨w.heap.size + 1, 0, none⟩)), .int .i64 6] (by rfl) rfl rfl (by simp only [List.map_toArray, List.map_cons, List.map_nil]; rfl) ?_
                            with_reducible refine ((HN6.out _ _ _ n0_.out)).mono ?_
                            rintro e w3 ⟨A3, c3, rfl, hd3, hk3⟩
                            refine ⟨_, rfl, ?_⟩
                            refine hK.out _ _ ((blk_cell hd3.box 0).trans rfl) (fun hHeld => ?_)
                            clear hK K
                            refine norm_ (a' := ?_) ?_ ?_
                            rotate_left
                            · show Act.put _ (some 15) _ = _
                              simp only [Act.put, List.setIfInBounds_toArray, List.set_cons_zero, List.set_cons_succ, i64_w, i32_w]
                              rfl
                            exact norm_ (by first | (simp only [putAll, Act.put, List.setIfInBounds_toArray, List.set_cons_zero, List.set_cons_succ]; done) | (simp only [putAll, Act.put, List.setIfInBounds_toArray, List.set_cons_zero, List.set_cons_succ]; rfl)) (hJ1_3 (A3, c3, 0) _ ⟨hHeld, ⟨hd3⟩⟩)
                          · skip
                            refine value_ (w1 := ?_) (v := ?_) (by rfl) rfl ?_ ?_
                            rotate_left 2
                            · go_simp
                              constructor
                              · rfl
                              · rfl
                            refine hK.out _ _ ((blk_cell (blk_alloc n0_.out.box _) 0).trans rfl) (fun hHeld => ?_)
                            clear hK K
                            refine norm_ (a' := ?_) ?_ ?_
                            rotate_left
                            · show Act.put _ (some 6) _ = _
                              simp only [Act.put, List.setIfInBounds_toArray, List.set_cons_zero, List.set_cons_succ, i64_w, i32_w]
                              rfl
                            exact norm_ (by first | (simp only [putAll, Act.put, List.setIfInBounds_toArray, List.set_cons_zero, List.set_cons_succ]; done) | (simp only [putAll, Act.put, List.setIfInBounds_toArray, List.set_cons_zero, List.set_cons_succ]; rfl)) (hJ1_13 (A_, c_, W_.heap.size) _ ⟨hHeld, ⟨n0_.out.alloc _⟩, ⟨blk_new _ _, n0_.out.lt⟩⟩)
                      · skip
                        rintro ⟨A_, c_, g_⟩ W_ ⟨hS_, h0_, h1_⟩
                        have hHeld : W_.cell? ⟨w.heap.size + 1 + 1, 0, none⟩ = some (.pointer (some ⟨w.heap.size + 1, 0, none⟩)) := hS_
                        try clear n0_
                        have n0_ : Aside0 (Dec0 w W_ A_ c_ s5) := h0_
                        clear h0_
                        try clear n1_
                        have n1_ : Aside0 (W_.heap[g_]? = some (.cells #[.int .i64 0, .int .i64 0, .int .i64 0, .int .i64 0, .int .i64 0, .string ⟨#[]⟩, .slice none 0 0, .slice none 0 0, .slice none 0 0] 25 (0, 0)) ∧ w.heap.size + 1 + 1 < g_) := h1_
                        clear h1_
                        refine norm_ (a' := ?_) ?_ ?_
                        rotate_left
                        · simp only [putAll, Act.put, List.setIfInBounds_toArray, List.set_cons_zero, List.set_cons_succ]
                          rfl
                        refine one_ (i := 3) (N := some 15) #[true, true, true, true, true, false, true, false, true, false, true, false, false, true, false] rfl rfl (by kernel_rfl) (by decide) (fun K hK => ?_)
                        refine goes_ Tryd.func19 (by kernel_rfl) rfl #[(.pointer (some ⟨w.heap.size + 1, 0, none⟩)), .int .i64 6] (by rfl) rfl rfl (by simp only [List.map_toArray, List.map_cons, List.map_nil]; rfl) ?_
                        with_reducible refine ((HN6.out _ _ _ n0_.out)).mono ?_
                        rintro e w3 ⟨A3, c3, rfl, hd3, hk3⟩
                        refine ⟨_, rfl, ?_⟩
                        refine hK.out _ _ ((blk_cell hd3.box 0).trans rfl) (fun hHeld => ?_)
                        clear hK K
                        refine norm_ (a' := ?_) ?_ ?_
                        rotate_left
                        · show Act.put _ (some 15) _ = _
                          simp only [Act.put, List.setIfInBounds_toArray, List.set_cons_zero, List.set_cons_succ, i64_w, i32_w]
                          rfl
                        exact norm_ (by first | (simp only [putAll, Act.put, List.setIfInBounds_toArray, List.set_cons_zero, List.set_cons_succ]; done) | (simp only [putAll, Act.put, List.setIfInBounds_toArray, List.set_cons_zero, List.set_cons_succ]; rfl)) (hJ1_3_13 (A3, c3, g_) _ ⟨hHeld, ⟨hd3⟩, ⟨(hk3.2 _ (blk_lt n1_.out.1) (by have := n1_.out.2; show ¬ g_ = w.heap.size + 1; omega)).trans n1_.out.1, n1_.out.2⟩⟩)
                    · skip
                      rintro ⟨A_, c_, g_⟩ W_ ⟨hS_, h0_⟩
                      have hHeld : W_.cell? ⟨w.heap.size + 1 + 1, 0, none⟩ = some (.pointer (some ⟨w.heap.size + 1, 0, none⟩)) := hS_
                      try clear n0_
                      have n0_ : Aside0 (Dec0 w W_ A_ c_ s6) := h0_
                      clear h0_
                      refine norm_ (a' := ?_) ?_ ?_
                      rotate_left
                      · simp only [putAll, Act.put, List.setIfInBounds_toArray, List.set_cons_zero, List.set_cons_succ]
                        rfl
                      refine two_ (i := 5) (j := 13) (Ni := some 17) (Nj := some 6) #[true, true, true, true, true, true, true, false, true, false, true, false, false, false, false] #[true, true, true, true, true, false, true, false, true, false, true, false, false, true, false] rfl rfl rfl rfl (by kernel_rfl) (by decide) (by decide) (fun K hK => ?_) (fun K hK => ?_)
                      · skip
                        refine goes_ Tryd.func19 (by kernel_rfl) rfl #[(.pointer (some ⟨w.heap.size + 1, 0, none⟩)), .int .i64 6] (by rfl) rfl rfl (by simp only [List.map_toArray, List.map_cons, List.map_nil]; rfl) ?_
                        with_reducible refine ((HN7.out _ _ _ n0_.out)).mono ?_
                        rintro e w3 ⟨A3, c3, rfl, hd3, hk3⟩
                        refine ⟨_, rfl, ?_⟩
                        refine hK.out _ _ ((blk_cell hd3.box 0).trans rfl) (fun hHeld => ?_)
                        clear hK K
                        refine norm_ (a' := ?_) ?_ ?_
                        rotate_left
                        · show Act.put _ (some 17) _ = _
                          simp only [Act.put, List.setIfInBounds_toArray, List.set_cons_zero, List.set_cons_succ, i64_w, i32_w]
                          rfl
                        exact norm_ (by first | (simp only [putAll, Act.put, List.setIfInBounds_toArray, List.set_cons_zero, List.set_cons_succ]; done) | (simp only [putAll, Act.put, List.setIfInBounds_toArray, List.set_cons_zero, List.set_cons_succ]; rfl)) (hJ1_3_5 (A3, c3, 0) _ ⟨hHeld, ⟨hd3⟩⟩)
                      · skip
                        refine value_ (w1 := ?_) (v := ?_) (by rfl) rfl ?_ ?_
                        rotate_left 2
                        · go_simp
                          constructor
                          · rfl
                          · rfl
                        refine hK.out _ _ ((blk_cell (blk_alloc n0_.out.box _) 0).trans rfl) (fun hHeld => ?_)
                        clear hK K
                        refine norm_ (a' := ?_) ?_ ?_
                        rotate_left
                        · show Act.put _ (some 6) _ = _
                          simp only [Act.put, List.setIfInBounds_toArray, List.set_cons_zero, List.set_cons_succ, i64_w, i32_w]
                          rfl
                        exact norm_ (by first | (simp only [putAll, Act.put, List.setIfInBounds_toArray, List.set_cons_zero, List.set_cons_succ]; done) | (simp only [putAll, Act.put, List.setIfInBounds_toArray, List.set_cons_zero, List.set_cons_succ]; rfl)) (hJ1_3_13 (A_, c_, W_.heap.size) _ ⟨hHeld, ⟨n0_.out.alloc _⟩, ⟨blk_new _ _, n0_.out.lt⟩⟩)
                  · skip
                    rintro ⟨A_, c_, g_⟩ W_ ⟨hS_, h0_, h1_⟩
                    have hHeld : W_.cell? ⟨w.heap.size + 1 + 1, 0, none⟩ = some (.pointer (some ⟨w.heap.size + 1, 0, none⟩)) := hS_
                    try clear n0_
                    have n0_ : Aside0 (Dec0 w W_ A_ c_ s6) := h0_
                    clear h0_
                    try clear n1_
                    have n1_ : Aside0 (W_.heap[g_]? = some (.cells #[.int .i64 0, .int .i64 0, .int .i64 0, .int .i64 0, .int .i64 0, .string ⟨#[]⟩, .slice none 0 0, .slice none 0 0, .slice none 0 0] 25 (0, 0)) ∧ w.heap.size + 1 + 1 < g_) := h1_
                    clear h1_
                    refine norm_ (a' := ?_) ?_ ?_
                    rotate_left
                    · simp only [putAll, Act.put, List.setIfInBounds_toArray, List.set_cons_zero, List.set_cons_succ]
                      rfl
                    refine one_ (i := 5) (N := some 17) #[true, true, true, true, true, true, true, false, true, false, true, false, false, true, false] rfl rfl (by kernel_rfl) (by decide) (fun K hK => ?_)
                    refine goes_ Tryd.func19 (by kernel_rfl) rfl #[(.pointer (some ⟨w.heap.size + 1, 0, none⟩)), .int .i64 6] (by rfl) rfl rfl (by simp only [List.map_toArray, List.map_cons, List.map_nil]; rfl) ?_
                    with_reducible refine ((HN7.out _ _ _ n0_.out)).mono ?_
                    rintro e w3 ⟨A3, c3, rfl, hd3, hk3⟩
                    refine ⟨_, rfl, ?_⟩
                    refine hK.out _ _ ((blk_cell hd3.box 0).trans rfl) (fun hHeld => ?_)
                    clear hK K
                    refine norm_ (a' := ?_) ?_ ?_
                    rotate_left
                    · show Act.put _ (some 17) _ = _
                      simp only [Act.put, List.setIfInBounds_toArray, List.set_cons_zero, List.set_cons_succ, i64_w, i32_w]
                      rfl
                    exact norm_ (by first | (simp only [putAll, Act.put, List.setIfInBounds_toArray, List.set_cons_zero, List.set_cons_succ]; done) | (simp only [putAll, Act.put, List.setIfInBounds_toArray, List.set_cons_zero, List.set_cons_succ]; rfl)) (hJ1_3_5_13 (A3, c3, g_) _ ⟨hHeld, ⟨hd3⟩, ⟨(hk3.2 _ (blk_lt n1_.out.1) (by have := n1_.out.2; show ¬ g_ = w.heap.size + 1; omega)).trans n1_.out.1, n1_.out.2⟩⟩)
                · skip
                  rintro ⟨A_, c_, g_⟩ W_ ⟨hS_, h0_⟩
                  have hHeld : W_.cell? ⟨w.heap.size + 1 + 1, 0, none⟩ = some (.pointer (some ⟨w.heap.size + 1, 0, none⟩)) := hS_
                  try clear n0_
                  have n0_ : Aside0 (Dec0 w W_ A_ c_ s7) := h0_
                  clear h0_
                  refine norm_ (a' := ?_) ?_ ?_
                  rotate_left
                  · simp only [putAll, Act.put, List.setIfInBounds_toArray, List.set_cons_zero, List.set_cons_succ]
                    rfl
                  refine two_ (i := 7) (j := 13) (Ni := some 19) (Nj := some 6) #[true, true, true, true, true, true, true, true, true, false, true, false, false, false, false] #[true, true, true, true, true, true, true, false, true, false, true, false, false, true, false] rfl rfl rfl rfl (by kernel_rfl) (by decide) (by decide) (fun K hK => ?_) (fun K hK => ?_)
                  · skip
                    refine goes_ Tryd.func19 (by kernel_rfl) rfl #[(.pointer (some ⟨w.heap.size + 1, 0, none⟩)), .int .i64 6] (by rfl) rfl rfl (by simp only [List.map_toArray, List.map_cons, List.map_nil]; rfl) ?_
                    with_reducible refine ((HN8.out _ _ _ n0_.out)).mono ?_
                    rintro e w3 ⟨A3, c3, rfl, hd3, hk3⟩
                    refine ⟨_, rfl, ?_⟩
                    refine hK.out _ _ ((blk_cell hd3.box 0).trans rfl) (fun hHeld => ?_)
                    clear hK K
                    refine norm_ (a' := ?_) ?_ ?_
                    rotate_left
                    · show Act.put _ (some 19) _ = _
                      simp only [Act.put, List.setIfInBounds_toArray, List.set_cons_zero, List.set_cons_succ, i64_w, i32_w]
                      rfl
                    exact norm_ (by first | (simp only [putAll, Act.put, List.setIfInBounds_toArray, List.set_cons_zero, List.set_cons_succ]; done) | (simp only [putAll, Act.put, List.setIfInBounds_toArray, List.set_cons_zero, List.set_cons_succ]; rfl)) (hJ1_3_5_7 (A3, c3, 0) _ ⟨hHeld, ⟨hd3⟩⟩)
                  · skip
                    refine value_ (w1 := ?_) (v := ?_) (by rfl) rfl ?_ ?_
                    rotate_left 2
                    · go_simp
                      constructor
                      · rfl
                      · rfl
                    refine hK.out _ _ ((blk_cell (blk_alloc n0_.out.box _) 0).trans rfl) (fun hHeld => ?_)
                    clear hK K
                    refine norm_ (a' := ?_) ?_ ?_
                    rotate_left
                    · show Act.put _ (some 6) _ = _
                      simp only [Act.put, List.setIfInBounds_toArray, List.set_cons_zero, List.set_cons_succ, i64_w, i32_w]
                      rfl
                    exact norm_ (by first | (simp only [putAll, Act.put, List.setIfInBounds_toArray, List.set_cons_zero, List.set_cons_succ]; done) | (simp only [putAll, Act.put, List.setIfInBounds_toArray, List.set_cons_zero, List.set_cons_succ]; rfl)) (hJ1_3_5_13 (A_, c_, W_.heap.size) _ ⟨hHeld, ⟨n0_.out.alloc _⟩, ⟨blk_new _ _, n0_.out.lt⟩⟩)
              · skip
                rintro ⟨A_, c_, g_⟩ W_ ⟨hS_, h0_, h1_⟩
                have hHeld : W_.cell? ⟨w.heap.size + 1 + 1, 0, none⟩ = some (.pointer (some ⟨w.heap.size + 1, 0, none⟩)) := hS_
                try clear n0_
                have n0_ : Aside0 (Dec0 w W_ A_ c_ s7) := h0_
                clear h0_
                try clear n1_
                have n1_ : Aside0 (W_.heap[g_]? = some (.cells #[.int .i64 0, .int .i64 0, .int .i64 0, .int .i64 0, .int .i64 0, .string ⟨#[]⟩, .slice none 0 0, .slice none 0 0, .slice none 0 0] 25 (0, 0)) ∧ w.heap.size + 1 + 1 < g_) := h1_
                clear h1_
                refine norm_ (a' := ?_) ?_ ?_
                rotate_left
                · simp only [putAll, Act.put, List.setIfInBounds_toArray, List.set_cons_zero, List.set_cons_succ]
                  rfl
                refine one_ (i := 7) (N := some 19) #[true, true, true, true, true, true, true, true, true, false, true, false, false, true, false] rfl rfl (by kernel_rfl) (by decide) (fun K hK => ?_)
                refine goes_ Tryd.func19 (by kernel_rfl) rfl #[(.pointer (some ⟨w.heap.size + 1, 0, none⟩)), .int .i64 6] (by rfl) rfl rfl (by simp only [List.map_toArray, List.map_cons, List.map_nil]; rfl) ?_
                with_reducible refine ((HN8.out _ _ _ n0_.out)).mono ?_
                rintro e w3 ⟨A3, c3, rfl, hd3, hk3⟩
                refine ⟨_, rfl, ?_⟩
                refine hK.out _ _ ((blk_cell hd3.box 0).trans rfl) (fun hHeld => ?_)
                clear hK K
                refine norm_ (a' := ?_) ?_ ?_
                rotate_left
                · show Act.put _ (some 19) _ = _
                  simp only [Act.put, List.setIfInBounds_toArray, List.set_cons_zero, List.set_cons_succ, i64_w, i32_w]
                  rfl
                exact norm_ (by first | (simp only [putAll, Act.put, List.setIfInBounds_toArray, List.set_cons_zero, List.set_cons_succ]; done) | (simp only [putAll, Act.put, List.setIfInBounds_toArray, List.set_cons_zero, List.set_cons_succ]; rfl)) (hJ1_3_5_7_13 (A3, c3, g_) _ ⟨hHeld, ⟨hd3⟩, ⟨(hk3.2 _ (blk_lt n1_.out.1) (by have := n1_.out.2; show ¬ g_ = w.heap.size + 1; omega)).trans n1_.out.1, n1_.out.2⟩⟩)
            · skip
              rintro ⟨A_, c_, g_⟩ W_ ⟨hS_, h0_⟩
              have hHeld : W_.cell? ⟨w.heap.size + 1 + 1, 0, none⟩ = some (.pointer (some ⟨w.heap.size + 1, 0, none⟩)) := hS_
              try clear n0_
              have n0_ : Aside0 (Dec0 w W_ A_ c_ s8) := h0_
              clear h0_
              refine norm_ (a' := ?_) ?_ ?_
              rotate_left
              · simp only [putAll, Act.put, List.setIfInBounds_toArray, List.set_cons_zero, List.set_cons_succ]
                rfl
              refine two_ (i := 9) (j := 13) (Ni := some 21) (Nj := some 6) #[true, true, true, true, true, true, true, true, true, true, true, false, false, false, false] #[true, true, true, true, true, true, true, true, true, false, true, false, false, true, false] rfl rfl rfl rfl (by kernel_rfl) (by decide) (by decide) (fun K hK => ?_) (fun K hK => ?_)
              · skip
                refine goes_ Tryd.func19 (by kernel_rfl) rfl #[(.pointer (some ⟨w.heap.size + 1, 0, none⟩)), .int .i64 6] (by rfl) rfl rfl (by simp only [List.map_toArray, List.map_cons, List.map_nil]; rfl) ?_
                with_reducible refine ((HN9.out _ _ _ n0_.out)).mono ?_
                rintro e w3 ⟨A3, c3, rfl, hd3, hk3⟩
                refine ⟨_, rfl, ?_⟩
                refine hK.out _ _ ((blk_cell hd3.box 0).trans rfl) (fun hHeld => ?_)
                clear hK K
                refine norm_ (a' := ?_) ?_ ?_
                rotate_left
                · show Act.put _ (some 21) _ = _
                  simp only [Act.put, List.setIfInBounds_toArray, List.set_cons_zero, List.set_cons_succ, i64_w, i32_w]
                  rfl
                exact norm_ (by first | (simp only [putAll, Act.put, List.setIfInBounds_toArray, List.set_cons_zero, List.set_cons_succ]; done) | (simp only [putAll, Act.put, List.setIfInBounds_toArray, List.set_cons_zero, List.set_cons_succ]; rfl)) (hJ1_3_5_7_9 (A3, c3, 0) _ ⟨hHeld, ⟨hd3⟩⟩)
              · skip
                refine value_ (w1 := ?_) (v := ?_) (by rfl) rfl ?_ ?_
                rotate_left 2
                · go_simp
                  constructor
                  · rfl
                  · rfl
                refine hK.out _ _ ((blk_cell (blk_alloc n0_.out.box _) 0).trans rfl) (fun hHeld => ?_)
                clear hK K
                refine norm_ (a' := ?_) ?_ ?_
                rotate_left
                · show Act.put _ (some 6) _ = _
                  simp only [Act.put, List.setIfInBounds_toArray, List.set_cons_zero, List.set_cons_succ, i64_w, i32_w]
                  rfl
                exact norm_ (by first | (simp only [putAll, Act.put, List.setIfInBounds_toArray, List.set_cons_zero, List.set_cons_succ]; done) | (simp only [putAll, Act.put, List.setIfInBounds_toArray, List.set_cons_zero, List.set_cons_succ]; rfl)) (hJ1_3_5_7_13 (A_, c_, W_.heap.size) _ ⟨hHeld, ⟨n0_.out.alloc _⟩, ⟨blk_new _ _, n0_.out.lt⟩⟩)
          · skip
            rintro ⟨A_, c_, g_⟩ W_ ⟨hS_, h0_, h1_⟩
            have hHeld : W_.cell? ⟨w.heap.size + 1 + 1, 0, none⟩ = some (.pointer (some ⟨w.heap.size + 1, 0, none⟩)) := hS_
            try clear n0_
            have n0_ : Aside0 (Dec0 w W_ A_ c_ s8) := h0_
            clear h0_
            try clear n1_
            have n1_ : Aside0 (W_.heap[g_]? = some (.cells #[.int .i64 0, .int .i64 0, .int .i64 0, .int .i64 0, .int .i64 0, .string ⟨#[]⟩, .slice none 0 0, .slice none 0 0, .slice none 0 0] 25 (0, 0)) ∧ w.heap.size + 1 + 1 < g_) := h1_
            clear h1_
            refine norm_ (a' := ?_) ?_ ?_
            rotate_left
            · simp only [putAll, Act.put, List.setIfInBounds_toArray, List.set_cons_zero, List.set_cons_succ]
              rfl
            refine one_ (i := 9) (N := some 21) #[true, true, true, true, true, true, true, true, true, true, true, false, false, true, false] rfl rfl (by kernel_rfl) (by decide) (fun K hK => ?_)
            refine goes_ Tryd.func19 (by kernel_rfl) rfl #[(.pointer (some ⟨w.heap.size + 1, 0, none⟩)), .int .i64 6] (by rfl) rfl rfl (by simp only [List.map_toArray, List.map_cons, List.map_nil]; rfl) ?_
            with_reducible refine ((HN9.out _ _ _ n0_.out)).mono ?_
            rintro e w3 ⟨A3, c3, rfl, hd3, hk3⟩
            refine ⟨_, rfl, ?_⟩
            refine hK.out _ _ ((blk_cell hd3.box 0).trans rfl) (fun hHeld => ?_)
            clear hK K
            refine norm_ (a' := ?_) ?_ ?_
            rotate_left
            · show Act.put _ (some 21) _ = _
              simp only [Act.put, List.setIfInBounds_toArray, List.set_cons_zero, List.set_cons_succ, i64_w, i32_w]
              rfl
            exact norm_ (by first | (simp only [putAll, Act.put, List.setIfInBounds_toArray, List.set_cons_zero, List.set_cons_succ]; done) | (simp only [putAll, Act.put, List.setIfInBounds_toArray, List.set_cons_zero, List.set_cons_succ]; rfl)) (hJ1_3_5_7_9_13 (A3, c3, g_) _ ⟨hHeld, ⟨hd3⟩, ⟨(hk3.2 _ (blk_lt n1_.out.1) (by have := n1_.out.2; show ¬ g_ = w.heap.size + 1; omega)).trans n1_.out.1, n1_.out.2⟩⟩)
        · skip
          rintro ⟨A_, c_, g_⟩ W_ ⟨hS_, h0_⟩
          have hHeld : W_.cell? ⟨w.heap.size + 1 + 1, 0, none⟩ = some (.pointer (some ⟨w.heap.size + 1, 0, none⟩)) := hS_
          try clear n0_
          have n0_ : Aside0 (Dec0 w W_ A_ c_ s9) := h0_
          clear h0_
          refine norm_ (a' := ?_) ?_ ?_
          rotate_left
          · simp only [putAll, Act.put, List.setIfInBounds_toArray, List.set_cons_zero, List.set_cons_succ]
            rfl
          refine two_ (i := 11) (j := 13) (Ni := some 23) (Nj := some 6) #[true, true, true, true, true, true, true, true, true, true, true, true, false, false, false] #[true, true, true, true, true, true, true, true, true, true, true, false, false, true, false] rfl rfl rfl rfl (by kernel_rfl) (by decide) (by decide) (fun K hK => ?_) (fun K hK => ?_)
          · skip
            refine goes_ Tryd.func20 (by kernel_rfl) rfl #[(.pointer (some ⟨w.heap.size + 1, 0, none⟩))] (by rfl) rfl rfl (by simp only [List.map_toArray, List.map_cons, List.map_nil]; rfl) ?_
            with_reducible refine ((HN10.out _ _ _ n0_.out)).mono ?_
            rintro e w3 ⟨A3, c3, rfl, hd3, hk3⟩
            refine ⟨_, rfl, ?_⟩
            refine hK.out _ _ ((blk_cell hd3.box 0).trans rfl) (fun hHeld => ?_)
            clear hK K
            refine norm_ (a' := ?_) ?_ ?_
            rotate_left
            · show Act.put _ (some 23) _ = _
              simp only [Act.put, List.setIfInBounds_toArray, List.set_cons_zero, List.set_cons_succ, i64_w, i32_w]
              rfl
            refine pure_ (i := 12) (N := some 24) (v := ?_) (a' := ?_) #[true, true, true, true, true, true, true, true, true, true, true, true, true, false, false] rfl rfl (by kernel_rfl) (fun _ _ _ h => h) (Or.inl ⟨by rfl, ?_⟩) ?_ ?_
            rotate_left
            · intro w'
              go_simp
              with_reducible rfl
            rotate_left
            · simp only [Act.put, List.setIfInBounds_toArray, List.set_cons_zero, List.set_cons_succ, i64_w, i32_w]
              rfl
            exact norm_ (by first | (simp only [putAll, Act.put, List.setIfInBounds_toArray, List.set_cons_zero, List.set_cons_succ]; done) | (simp only [putAll, Act.put, List.setIfInBounds_toArray, List.set_cons_zero, List.set_cons_succ]; rfl)) (hJ1_3_5_7_9_11 (A3, c3, 0) _ ⟨hHeld, ⟨hd3⟩⟩)
          · skip
            refine value_ (w1 := ?_) (v := ?_) (by rfl) rfl ?_ ?_
            rotate_left 2
            · go_simp
              constructor
              · rfl
              · rfl
            refine hK.out _ _ ((blk_cell (blk_alloc n0_.out.box _) 0).trans rfl) (fun hHeld => ?_)
            clear hK K
            refine norm_ (a' := ?_) ?_ ?_
            rotate_left
            · show Act.put _ (some 6) _ = _
              simp only [Act.put, List.setIfInBounds_toArray, List.set_cons_zero, List.set_cons_succ, i64_w, i32_w]
              rfl
            exact norm_ (by first | (simp only [putAll, Act.put, List.setIfInBounds_toArray, List.set_cons_zero, List.set_cons_succ]; done) | (simp only [putAll, Act.put, List.setIfInBounds_toArray, List.set_cons_zero, List.set_cons_succ]; rfl)) (hJ1_3_5_7_9_13 (A_, c_, W_.heap.size) _ ⟨hHeld, ⟨n0_.out.alloc _⟩, ⟨blk_new _ _, n0_.out.lt⟩⟩)
      · skip
        rintro ⟨A_, c_, g_⟩ W_ ⟨hS_, h0_, h1_⟩
        have hHeld : W_.cell? ⟨w.heap.size + 1 + 1, 0, none⟩ = some (.pointer (some ⟨w.heap.size + 1, 0, none⟩)) := hS_
        try clear n0_
        have n0_ : Aside0 (Dec0 w W_ A_ c_ s9) := h0_
        clear h0_
        try clear n1_
        have n1_ : Aside0 (W_.heap[g_]? = some (.cells #[.int .i64 0, .int .i64 0, .int .i64 0, .int .i64 0, .int .i64 0, .string ⟨#[]⟩, .slice none 0 0, .slice none 0 0, .slice none 0 0] 25 (0, 0)) ∧ w.heap.size + 1 + 1 < g_) := h1_
        clear h1_
        refine norm_ (a' := ?_) ?_ ?_
        rotate_left
        · simp only [putAll, Act.put, List.setIfInBounds_toArray, List.set_cons_zero, List.set_cons_succ]
          rfl
        refine one_ (i := 11) (N := some 23) #[true, true, true, true, true, true, true, true, true, true, true, true, false, true, false] rfl rfl (by kernel_rfl) (by decide) (fun K hK => ?_)
        refine goes_ Tryd.func20 (by kernel_rfl) rfl #[(.pointer (some ⟨w.heap.size + 1, 0, none⟩))] (by rfl) rfl rfl (by simp only [List.map_toArray, List.map_cons, List.map_nil]; rfl) ?_
        with_reducible refine ((HN10.out _ _ _ n0_.out)).mono ?_
        rintro e w3 ⟨A3, c3, rfl, hd3, hk3⟩
        refine ⟨_, rfl, ?_⟩
        refine hK.out _ _ ((blk_cell hd3.box 0).trans rfl) (fun hHeld => ?_)
        clear hK K
        refine norm_ (a' := ?_) ?_ ?_
        rotate_left
        · show Act.put _ (some 23) _ = _
          simp only [Act.put, List.setIfInBounds_toArray, List.set_cons_zero, List.set_cons_succ, i64_w, i32_w]
          rfl
        refine pure_ (i := 12) (N := some 24) (v := ?_) (a' := ?_) #[true, true, true, true, true, true, true, true, true, true, true, true, true, true, false] rfl rfl (by kernel_rfl) (fun _ _ _ h => h) (Or.inl ⟨by rfl, ?_⟩) ?_ ?_
        rotate_left
        · intro w'
          go_simp
          with_reducible rfl
        rotate_left
        · simp only [Act.put, List.setIfInBounds_toArray, List.set_cons_zero, List.set_cons_succ, i64_w, i32_w]
          rfl
        exact norm_ (by first | (simp only [putAll, Act.put, List.setIfInBounds_toArray, List.set_cons_zero, List.set_cons_succ]; done) | (simp only [putAll, Act.put, List.setIfInBounds_toArray, List.set_cons_zero, List.set_cons_succ]; rfl)) (hJ1_3_5_7_9_11_13 (A3, c3, g_) _ ⟨hHeld, ⟨hd3⟩, ⟨(hk3.2 _ (blk_lt n1_.out.1) (by have := n1_.out.2; show ¬ g_ = w.heap.size + 1; omega)).trans n1_.out.1, n1_.out.2⟩⟩)
    · skip
      rintro ⟨A_, c_, g_⟩ W_ ⟨hS_, h0_⟩
      have hHeld : W_.cell? ⟨w.heap.size + 1 + 1, 0, none⟩ = some (.pointer (some ⟨w.heap.size + 1, 0, none⟩)) := hS_
      try clear n0_
      have n0_ : Aside0 (Dec0 w W_ A_ c_ s10) := h0_
      clear h0_
      refine norm_ (a' := ?_) ?_ ?_
      rotate_left
      · simp only [putAll, Act.put, List.setIfInBounds_toArray, List.set_cons_zero, List.set_cons_succ]
        rfl
      refine one_ (i := 13) (N := some 6) #[true, true, true, true, true, true, true, true, true, true, true, true, true, true, false] rfl rfl (by kernel_rfl) (by decide) (fun K hK => ?_)
      refine value_ (w1 := ?_) (v := ?_) (by rfl) rfl ?_ ?_
      rotate_left 2
      · go_simp
        constructor
        · rfl
        · rfl
      refine hK.out _ _ ((blk_cell (blk_alloc n0_.out.box _) 0).trans rfl) (fun hHeld => ?_)
      clear hK K
      refine norm_ (a' := ?_) ?_ ?_
      rotate_left
      · show Act.put _ (some 6) _ = _
        simp only [Act.put, List.setIfInBounds_toArray, List.set_cons_zero, List.set_cons_succ, i64_w, i32_w]
        rfl
      exact norm_ (by first | (simp only [putAll, Act.put, List.setIfInBounds_toArray, List.set_cons_zero, List.set_cons_succ]; done) | (simp only [putAll, Act.put, List.setIfInBounds_toArray, List.set_cons_zero, List.set_cons_succ]; rfl)) (hJ1_3_5_7_9_11_13 (A_, c_, W_.heap.size) _ ⟨hHeld, ⟨n0_.out.alloc _⟩, ⟨blk_new _ _, n0_.out.lt⟩⟩)
  rintro ⟨A_, c_, g_⟩ W_ ⟨hS_, h0_, h1_⟩
  have hHeld : W_.cell? ⟨w.heap.size + 1 + 1, 0, none⟩ = some (.pointer (some ⟨w.heap.size + 1, 0, none⟩)) := hS_
  try clear n0_
  have n0_ : Aside0 (Dec0 w W_ A_ c_ s10) := h0_
  clear h0_
  try clear n1_
  have n1_ : Aside0 (W_.heap[g_]? = some (.cells #[.int .i64 0, .int .i64 0, .int .i64 0, .int .i64 0, .int .i64 0, .string ⟨#[]⟩, .slice none 0 0, .slice none 0 0, .slice none 0 0] 25 (0, 0)) ∧ w.heap.size + 1 + 1 < g_) := h1_
  clear h1_
  refine norm_ (a' := ?_) ?_ ?_
  rotate_left
  · simp only [putAll, Act.put, List.setIfInBounds_toArray, List.set_cons_zero, List.set_cons_succ]
    rfl
  refine last_ (i := 14) (N := none) #[true, true, true, true, true, true, true, true, true, true, true, true, true, true, true] rfl rfl (by kernel_rfl) (by decide) (fun K hK => ?_)
  refine skip_ (w1 := W_.setCells g_ 0 [.int .i64 q5, .int .i64 q6, .int .i64 q7, .int .i64 q8, .int .i64 q9, .string q10, .slice none 0 0, .slice none 0 0, .slice none 0 0]) (by rfl) rfl ?_ ?_
  · have hst := store_msg W_ g_ _ n1_.out.1 rfl (.int .i64 q5) (.int .i64 q6) (.int .i64 q7) (.int .i64 q8) (.int .i64 q9) (.string q10) (.slice none 0 0) (.slice none 0 0) (.slice none 0 0) (fun v hv => by simp only [List.mem_cons, List.not_mem_nil, or_false] at hv; rcases hv with rfl | rfl | rfl | rfl | rfl | rfl | rfl | rfl | rfl <;> rfl)
    rw [show execOp _ _ = ((do Instr.storeAt 25 (.pointer (some ⟨g_, 0, none⟩)) (.agg #[.int .i64 q5, .int .i64 q6, .int .i64 q7, .int .i64 q8, .int .i64 q9, .string q10, .slice none 0 0, .slice none 0 0, .slice none 0 0]); pure Next.skip) : Sem Next) from rfl, Sem.run_bind, hst]
    rfl
  obtain ⟨W5, hW5⟩ : ∃ W5, W5 = W_.setCells g_ 0 [.int .i64 q5, .int .i64 q6, .int .i64 q7, .int .i64 q8, .int .i64 q9, .string q10, .slice none 0 0, .slice none 0 0, .slice none 0 0] := ⟨_, rfl⟩
  rw [← hW5]
  have hg5 : W5.heap[g_]? = some (.cells #[.int .i64 q5, .int .i64 q6, .int .i64 q7, .int .i64 q8, .int .i64 q9, .string q10, .slice none 0 0, .slice none 0 0, .slice none 0 0] 25 (0, 0)) := by rw [hW5]; exact put_msg n1_.out.1 _ _ _ _ _ _ _ _ _
  have HD5 : Aside0 (Dec0 w W5 A_ c_ s10) := ⟨by rw [hW5]; exact n0_.out.cells _ n1_.out.2⟩
  have HG5 := Aside0.mk hg5
  have HGL := Aside0.mk n1_.out.2
  clear hg5 hW5
  refine hK.out _ _ ?_
  clear hK K
  refine done_ (by kernel_rfl) ?_
  have hcx5 := (blk_cell HD5.out.box 0).trans rfl
  obtain ⟨⟨l11, s11⟩, hl11⟩ : ∃ q, q = listS textS 2 s10 := ⟨_, rfl⟩
  have HL11 := Aside0.mk (list_str_calls 2 (by omega) w W5 (w.heap.size + 1) A_ c_ s10 HD5.out.rd)
  go_wp2_with fail
  refine HL11.out.mono ?_
  rintro e w11 ⟨v11, A11, c11, rfl, ho11, hr11, hk11⟩
  rw [← hl11] at ho11 hr11
  have HQ11 := Aside0.mk hl11
  have HD11 := Aside0.mk (HD5.out.step hr11 hk11)
  have hgl := HGL.out
  have HG11 := Aside0.mk ((hk11.2 g_ (blk_lt HG5.out) (by show ¬ g_ = w.heap.size + 1; omega)).trans HG5.out)
  have hgW := blk_lt HG5.out
  have HO11 := Aside0.mk (Kd.R_mono (ok' := fun k => k ≠ w.heap.size + 1 ∧ k ≠ g_) (Kd.R_lower (Kd.R_bound ho11) (Nat.le_trans HD5.out.rd.low.size (Nat.le_refl _))) (fun k hk => ⟨hk.1, by have := hk.2.1; omega⟩))
  obtain ⟨Ao11, co11, rfl⟩ := Kd.R_slice HO11.out
  clear hl11 ho11 hr11 hk11 HL11
  have hcx11 := (blk_cell HD11.out.box 0).trans rfl
  have hcg11 := (blk_cell HG11.out 6).trans rfl
  have hfg11 := blk_frozen HG11.out 6
  go_wp2_with fail
  obtain ⟨W12, hW12⟩ : ∃ W12, W12 = w11.setCell ⟨g_, 6, none⟩ (.slice Ao11 l11.length co11) := ⟨_, rfl⟩
  rw [← hW12]
  have HD12 : Aside0 (Dec0 w W12 A11 c11 s11) := ⟨by rw [hW12]; exact HD11.out.set _ hgl⟩
  have HG12 : Aside0 (W12.heap[g_]? = some (.cells #[.int .i64 q5, .int .i64 q6, .int .i64 q7, .int .i64 q8, .int .i64 q9, .string q10, .slice Ao11 l11.length co11, .slice none 0 0, .slice none 0 0] 25 (0, 0))) := ⟨by rw [hW12]; exact blk_put (cs := #[.int .i64 q5, .int .i64 q6, .int .i64 q7, .int .i64 q8, .int .i64 q9, .string q10, .slice none 0 0, .slice none 0 0, .slice none 0 0]) HG11.out 6 _ rfl⟩
  have HP12 : Aside0 (Kd.R Kd.string 9 W12 w.heap.size (fun k => k ≠ w.heap.size + 1 ∧ k ≠ g_) (.slice Ao11 l11.length co11) l11) := ⟨by rw [hW12]; exact Kd.R_far (p := ⟨g_, 6, none⟩) HO11.out (fun k hk => hk.2) _⟩
  clear hW12 HD11 HG11 HO11 hcx11 hcg11 hfg11
  obtain ⟨⟨l12, s12⟩, hl12⟩ : ∃ q, q = listS (numS 1) 2 s11 := ⟨_, rfl⟩
  have hgW12 := blk_lt HG12.out
  refine (list_int_calls 2 (by omega) w W12 (w.heap.size + 1) A11 c11 s11 HD12.out.rd (w.heap.size + 1 + 1) (by omega) HD12.out.box).mono ?_
  rintro e w13 ⟨v13, A13, c13, rfl, ho13, hr13, hk13⟩
  rw [← hl12] at ho13 hr13
  have HQ12 := Aside0.mk hl12
  have HD13 := Aside0.mk (HD12.out.step hr13 hk13)
  have HG13 := Aside0.mk ((hk13.2 g_ (blk_lt HG12.out) (by show ¬ g_ = w.heap.size + 1; omega)).trans HG12.out)
  have HP13 := Aside0.mk (Kd.R_step HP12.out (fun k hk hlt => hk13.2 k hlt hk.1))
  have HO13 := Aside0.mk (Kd.R_mono (ok' := fun k => k ≠ w.heap.size + 1 ∧ k ≠ g_) (Kd.R_lower (Kd.R_bound ho13) HD12.out.rd.low.size) (fun k hk => ⟨hk.1, by have := hk.2.1; omega⟩))
  obtain ⟨Ao13, co13, rfl⟩ := Kd.R_slice HO13.out
  clear hl12 ho13 hr13 hk13 HD12 HG12 HP12
  have hcx13 := (blk_cell HD13.out.box 0).trans rfl
  have hcg13 := (blk_cell HG13.out 7).trans rfl
  have hfg13 := blk_frozen HG13.out 7
  go_wp2_with fail
  obtain ⟨W14, hW14⟩ : ∃ W14, W14 = w13.setCell ⟨g_, 7, none⟩ (.slice Ao13 l12.length co13) := ⟨_, rfl⟩
  rw [← hW14]
  have HD14 : Aside0 (Dec0 w W14 A13 c13 s12) := ⟨by rw [hW14]; exact HD13.out.set _ hgl⟩
  have HG14 : Aside0 (W14.heap[g_]? = some (.cells #[.int .i64 q5, .int .i64 q6, .int .i64 q7, .int .i64 q8, .int .i64 q9, .string q10, .slice Ao11 l11.length co11, .slice Ao13 l12.length co13, .slice none 0 0] 25 (0, 0))) := ⟨by rw [hW14]; exact blk_put (cs := #[.int .i64 q5, .int .i64 q6, .int .i64 q7, .int .i64 q8, .int .i64 q9, .string q10, .slice Ao11 l11.length co11, .slice none 0 0, .slice none 0 0]) HG13.out 7 _ rfl⟩
  have HP14a : Kd.R Kd.string 9 W14 w.heap.size (fun k => k ≠ w.heap.size + 1 ∧ k ≠ g_) (.slice Ao11 l11.length co11) l11 := by rw [hW14]; exact Kd.R_far (p := ⟨g_, 7, none⟩) HP13.out (fun k hk => hk.2) _
  obtain ⟨N14, hN14⟩ : ∃ N14, N14 = W14.heap.size := ⟨_, rfl⟩
  have HP14 := Aside0.mk (Kd.R_mono (ok' := fun k => (k ≠ w.heap.size + 1 ∧ k ≠ g_) ∧ k < N14) (Kd.R_bound HP14a) (fun k hk => ⟨hk.1, by rw [hN14]; exact hk.2.2.1⟩))
  have HI14 : Aside0 (Kd.R (Kd.int .i64) 3 W14 w.heap.size (fun k => k ≠ w.heap.size + 1 ∧ k ≠ g_) (.slice Ao13 l12.length co13) l12) := ⟨by rw [hW14]; exact Kd.R_far (p := ⟨g_, 7, none⟩) HO13.out (fun k hk => hk.2) _⟩
  clear hW14 HD13 HG13 HO13 HP13 HP14a hcx13 hcg13 hfg13
  obtain ⟨⟨l13, s13⟩, hl13⟩ : ∃ q, q = listS textS 4 s12 := ⟨_, rfl⟩
  have hgW14 := blk_lt HG14.out
  refine (list_str_calls 4 (by omega) w W14 (w.heap.size + 1) A13 c13 s12 HD14.out.rd).mono ?_
  rintro e w15 ⟨v15, A15, c15, rfl, ho15, hr15, hk15⟩
  rw [← hl13] at ho15 hr15
  rw [← hN14] at ho15 hgW14
  have HQ13 := Aside0.mk hl13
  have HD15 := Aside0.mk (HD14.out.step hr15 hk15)
  have HG15 := Aside0.mk ((hk15.2 g_ (blk_lt HG14.out) (by show ¬ g_ = w.heap.size + 1; omega)).trans HG14.out)
  have HP15 := Aside0.mk (Kd.R_step HP14.out (fun k hk hlt => hk15.2 k hlt hk.1.1))
  have HI15 := Aside0.mk (Kd.R_step HI14.out (fun k hk hlt => hk15.2 k hlt hk.1))
  have hwN : w.heap.size ≤ N14 := by rw [hN14]; exact HD14.out.rd.low.size
  have HO15 := Aside0.mk (Kd.R_mono (ok' := fun k => (k ≠ w.heap.size + 1 ∧ k ≠ g_) ∧ N14 ≤ k) (Kd.R_lower (Kd.R_bound ho15) hwN) (fun k hk => ⟨⟨hk.1, by have := hk.2.1; omega⟩, hk.2.1⟩))
  obtain ⟨Ao15, co15, rfl⟩ := Kd.R_slice HO15.out
  clear hl13 ho15 hr15 hk15 HD14 HG14 HP14 HI14 hN14
  have hcx15 := (blk_cell HD15.out.box 0).trans rfl
  have hcg15 := (blk_cell HG15.out 8).trans rfl
  have hfg15 := blk_frozen HG15.out 8
  have HD16 := Aside0.mk (HD15.out.set (j := 8) (.slice Ao15 l13.length co15) hgl)
  have HG16 := Aside0.mk (blk_put (cs := #[.int .i64 q5, .int .i64 q6, .int .i64 q7, .int .i64 q8, .int .i64 q9, .string q10, .slice Ao11 l11.length co11, .slice Ao13 l12.length co13, .slice none 0 0]) HG15.out 8 (.slice Ao15 l13.length co15) rfl : (w15.setCell ⟨g_, 8, none⟩ (.slice Ao15 l13.length co15)).heap[g_]? = some (.cells #[.int .i64 q5, .int .i64 q6, .int .i64 q7, .int .i64 q8, .int .i64 q9, .string q10, .slice Ao11 l11.length co11, .slice Ao13 l12.length co13, .slice Ao15 l13.length co15] 25 (0, 0)))
  have HP16 := Aside0.mk (Kd.R_far (p := ⟨g_, 8, none⟩) HP15.out (fun k hk => hk.1.2) (.slice Ao15 l13.length co15))
  have HI16 := Aside0.mk (Kd.R_far (p := ⟨g_, 8, none⟩) HI15.out (fun k hk => hk.2) (.slice Ao15 l13.length co15))
  have HO16 := Aside0.mk (Kd.R_far (p := ⟨g_, 8, none⟩) HO15.out (fun k hk => hk.1.2) (.slice Ao15 l13.length co15))
  clear HP15 HI15 HO15
  have hr0 := (blk_cell HD15.out.rd.cell 0).trans rfl
  have hr1 := (blk_cell HD15.out.rd.cell 1).trans rfl
  obtain ⟨bs13, bad13⟩ := s13
  have HBZ := Aside0.mk HD16.out.rd.low
  have HMZ := Aside0.mk HD16.out.msg
  cases bad13 with
  | true =>
    have HDS : decS l0 = ⟨q4, (q5, q6, q7, q8, q9, q10, l11, l12, l13), (bs13, true)⟩ := by simp only [decS, ← HQ4.out, ← HQ5.out, ← HQ6.out, ← HQ7.out, ← HQ8.out, ← HQ9.out, ← HQ10.out, ← HQ11.out, ← HQ12.out, ← HQ13.out]
    replace HH := Aside0.mk ((if_pos (show (decS l0).s.2 = true ∨ (decS l0).q ≠ 2 ∨ (decS l0).s.1 ≠ [] from .inl (by rw [HDS]))).symm.trans HH.out)
    clear HDS
    obtain ⟨rfl, rfl, rfl, rfl, rfl, rfl, rfl, rfl, rfl, rfl⟩ : 0 = r1 ∧ 0 = r2 ∧ 0 = r3 ∧ 0 = r4 ∧ 0 = r5 ∧ (⟨#[]⟩ : ByteArray) = r6 ∧ [] = r7 ∧ [] = r8 ∧ [] = r9 ∧ 2 = r10 := by have h := Option.some.inj HH.out; unfold noMsg at h; simp only [Prod.mk.injEq] at h; exact h
    go_wp2_with (refine wpList_store_msg _ ?hg (.tmp 2) (.tmp 60) ?hop w.heap.size #[.int .i64 0, .int .i64 0, .int .i64 0, .int .i64 0, .int .i64 0, .string ⟨#[]⟩, .slice none 0 0, .slice none 0 0, .slice none 0 0] ?hb ?hcs (.int .i64 0) (.int .i64 0) (.int .i64 0) (.int .i64 0) (.int .i64 0) (.string ⟨#[]⟩) (.slice none 0 0) (.slice none 0 0) (.slice none 0 0) ?hp ?hx ?h1 ?_; (case hg => rfl); (case hop => rfl); (case hb => exact HMZ.out); (case hcs => rfl); (case hp => rfl); (case hx => rfl); (case h1 => exact (fun v hv => by simp only [List.mem_cons, List.not_mem_nil, or_false] at hv; rcases hv with rfl | rfl | rfl | rfl | rfl | rfl | rfl | rfl | rfl <;> rfl)); obtain ⟨WE, hWE⟩ : ∃ WE, WE = World.setCells (w15.setCell ⟨g_, 8, none⟩ (.slice Ao15 l13.length co15)) w.heap.size 0 [.int .i64 0, .int .i64 0, .int .i64 0, .int .i64 0, .int .i64 0, .string ⟨#[]⟩, .slice none 0 0, .slice none 0 0, .slice none 0 0] := ⟨_, rfl⟩; (try rw [← hWE]); have hme : WE.heap[w.heap.size]? = some (.cells #[.int .i64 0, .int .i64 0, .int .i64 0, .int .i64 0, .int .i64 0, .string ⟨#[]⟩, .slice none 0 0, .slice none 0 0, .slice none 0 0] 25 (0, 0)) := (by rw [hWE]; exact put_msg HMZ.out _ _ _ _ _ _ _ _ _); have HBE : Aside0 (Below w.heap.size w WE) := ⟨by rw [hWE]; exact low_cells HBZ.out w.heap.size _ (Nat.le_refl _)⟩; have HME := Aside0.mk hme; clear hme hWE)
    refine bodyPost_ret (results_ct rfl _ _ w.heap.size 25 #[.int .i64 0, .int .i64 0, .int .i64 0, .int .i64 0, .int .i64 0, .string ⟨#[]⟩, .slice none 0 0, .slice none 0 0, .slice none 0 0] (0, 0) _ rfl HME.out Tryd.underlying25 rfl (by kernel_rfl)) rfl ?_
    exact ⟨.slice none 0 0, .slice none 0 0, .slice none 0 0, rfl, Kd.R_nil _ _ _ _ _, Kd.R_nil _ _ _ _ _, Kd.R_nil _ _ _ _ _, HBE.out⟩
  | false =>
    have HDS := Aside0.mk (show decS l0 = ⟨q4, (q5, q6, q7, q8, q9, q10, l11, l12, l13), (bs13, false)⟩ by simp only [decS, ← HQ4.out, ← HQ5.out, ← HQ6.out, ← HQ7.out, ← HQ8.out, ← HQ9.out, ← HQ10.out, ← HQ11.out, ← HQ12.out, ← HQ13.out])
    by_cases h4 : q4 = 2
    case neg =>
      replace HH := Aside0.mk ((if_pos (show (decS l0).s.2 = true ∨ (decS l0).q ≠ 2 ∨ (decS l0).s.1 ≠ [] from .inr (.inl (by rw [HDS.out]; exact h4)))).symm.trans HH.out)
      have h4' : decide (q4 = 2) = false := decide_eq_false h4
      obtain ⟨rfl, rfl, rfl, rfl, rfl, rfl, rfl, rfl, rfl, rfl⟩ : 0 = r1 ∧ 0 = r2 ∧ 0 = r3 ∧ 0 = r4 ∧ 0 = r5 ∧ (⟨#[]⟩ : ByteArray) = r6 ∧ [] = r7 ∧ [] = r8 ∧ [] = r9 ∧ 2 = r10 := by have h := Option.some.inj HH.out; unfold noMsg at h; simp only [Prod.mk.injEq] at h; exact h
      go_wp2_with (refine wpList_store_msg _ ?hg (.tmp 2) (.tmp 60) ?hop w.heap.size #[.int .i64 0, .int .i64 0, .int .i64 0, .int .i64 0, .int .i64 0, .string ⟨#[]⟩, .slice none 0 0, .slice none 0 0, .slice none 0 0] ?hb ?hcs (.int .i64 0) (.int .i64 0) (.int .i64 0) (.int .i64 0) (.int .i64 0) (.string ⟨#[]⟩) (.slice none 0 0) (.slice none 0 0) (.slice none 0 0) ?hp ?hx ?h1 ?_; (case hg => rfl); (case hop => rfl); (case hb => exact HMZ.out); (case hcs => rfl); (case hp => rfl); (case hx => rfl); (case h1 => exact (fun v hv => by simp only [List.mem_cons, List.not_mem_nil, or_false] at hv; rcases hv with rfl | rfl | rfl | rfl | rfl | rfl | rfl | rfl | rfl <;> rfl)); obtain ⟨WE, hWE⟩ : ∃ WE, WE = World.setCells (w15.setCell ⟨g_, 8, none⟩ (.slice Ao15 l13.length co15)) w.heap.size 0 [.int .i64 0, .int .i64 0, .int .i64 0, .int .i64 0, .int .i64 0, .string ⟨#[]⟩, .slice none 0 0, .slice none 0 0, .slice none 0 0] := ⟨_, rfl⟩; (try rw [← hWE]); have hme : WE.heap[w.heap.size]? = some (.cells #[.int .i64 0, .int .i64 0, .int .i64 0, .int .i64 0, .int .i64 0, .string ⟨#[]⟩, .slice none 0 0, .slice none 0 0, .slice none 0 0] 25 (0, 0)) := (by rw [hWE]; exact put_msg HMZ.out _ _ _ _ _ _ _ _ _); have HBE : Aside0 (Below w.heap.size w WE) := ⟨by rw [hWE]; exact low_cells HBZ.out w.heap.size _ (Nat.le_refl _)⟩; have HME := Aside0.mk hme; clear hme hWE)
      refine bodyPost_ret (results_ct rfl _ _ w.heap.size 25 #[.int .i64 0, .int .i64 0, .int .i64 0, .int .i64 0, .int .i64 0, .string ⟨#[]⟩, .slice none 0 0, .slice none 0 0, .slice none 0 0] (0, 0) _ rfl HME.out Tryd.underlying25 rfl (by kernel_rfl)) rfl ?_
      exact ⟨.slice none 0 0, .slice none 0 0, .slice none 0 0, rfl, Kd.R_nil _ _ _ _ _, Kd.R_nil _ _ _ _ _, Kd.R_nil _ _ _ _ _, HBE.out⟩
    by_cases h5 : bs13 = []
    case neg =>
      replace HH := Aside0.mk ((if_pos (show (decS l0).s.2 = true ∨ (decS l0).q ≠ 2 ∨ (decS l0).s.1 ≠ [] from .inr (.inr (by rw [HDS.out]; exact h5)))).symm.trans HH.out)
      have h5' : 0 < bs13.length := List.length_pos_iff.2 h5
      obtain ⟨rfl, rfl, rfl, rfl, rfl, rfl, rfl, rfl, rfl, rfl⟩ : 0 = r1 ∧ 0 = r2 ∧ 0 = r3 ∧ 0 = r4 ∧ 0 = r5 ∧ (⟨#[]⟩ : ByteArray) = r6 ∧ [] = r7 ∧ [] = r8 ∧ [] = r9 ∧ 2 = r10 := by have h := Option.some.inj HH.out; unfold noMsg at h; simp only [Prod.mk.injEq] at h; exact h
      go_wp2_with (refine wpList_store_msg _ ?hg (.tmp 2) (.tmp 60) ?hop w.heap.size #[.int .i64 0, .int .i64 0, .int .i64 0, .int .i64 0, .int .i64 0, .string ⟨#[]⟩, .slice none 0 0, .slice none 0 0, .slice none 0 0] ?hb ?hcs (.int .i64 0) (.int .i64 0) (.int .i64 0) (.int .i64 0) (.int .i64 0) (.string ⟨#[]⟩) (.slice none 0 0) (.slice none 0 0) (.slice none 0 0) ?hp ?hx ?h1 ?_; (case hg => rfl); (case hop => rfl); (case hb => exact HMZ.out); (case hcs => rfl); (case hp => rfl); (case hx => rfl); (case h1 => exact (fun v hv => by simp only [List.mem_cons, List.not_mem_nil, or_false] at hv; rcases hv with rfl | rfl | rfl | rfl | rfl | rfl | rfl | rfl | rfl <;> rfl)); obtain ⟨WE, hWE⟩ : ∃ WE, WE = World.setCells (w15.setCell ⟨g_, 8, none⟩ (.slice Ao15 l13.length co15)) w.heap.size 0 [.int .i64 0, .int .i64 0, .int .i64 0, .int .i64 0, .int .i64 0, .string ⟨#[]⟩, .slice none 0 0, .slice none 0 0, .slice none 0 0] := ⟨_, rfl⟩; (try rw [← hWE]); have hme : WE.heap[w.heap.size]? = some (.cells #[.int .i64 0, .int .i64 0, .int .i64 0, .int .i64 0, .int .i64 0, .string ⟨#[]⟩, .slice none 0 0, .slice none 0 0, .slice none 0 0] 25 (0, 0)) := (by rw [hWE]; exact put_msg HMZ.out _ _ _ _ _ _ _ _ _); have HBE : Aside0 (Below w.heap.size w WE) := ⟨by rw [hWE]; exact low_cells HBZ.out w.heap.size _ (Nat.le_refl _)⟩; have HME := Aside0.mk hme; clear hme hWE)
      refine bodyPost_ret (results_ct rfl _ _ w.heap.size 25 #[.int .i64 0, .int .i64 0, .int .i64 0, .int .i64 0, .int .i64 0, .string ⟨#[]⟩, .slice none 0 0, .slice none 0 0, .slice none 0 0] (0, 0) _ rfl HME.out Tryd.underlying25 rfl (by kernel_rfl)) rfl ?_
      exact ⟨.slice none 0 0, .slice none 0 0, .slice none 0 0, rfl, Kd.R_nil _ _ _ _ _, Kd.R_nil _ _ _ _ _, Kd.R_nil _ _ _ _ _, HBE.out⟩
    subst h4 h5
    replace HH := Aside0.mk ((if_neg (show ¬ ((decS l0).s.2 = true ∨ (decS l0).q ≠ 2 ∨ (decS l0).s.1 ≠ []) by rw [HDS.out]; simp)).symm.trans HH.out)
    obtain ⟨g, hg1, hg2⟩ := Option.bind_eq_some_iff.1 HH.out
    rw [HDS.out] at hg1 hg2
    replace HH := Aside0.mk hg2
    have hgk := HG16.out
    have hk0 := (blk_cell hgk 0).trans rfl
    have hk1 := (blk_cell hgk 1).trans rfl
    have hk2 := (blk_cell hgk 2).trans rfl
    have hk3 := (blk_cell hgk 3).trans rfl
    have hk4 := (blk_cell hgk 4).trans rfl
    have hk5 := (blk_cell hgk 5).trans rfl
    have hk6 := (blk_cell hgk 6).trans rfl
    have hk7 := (blk_cell hgk 7).trans rfl
    have hk8 := (blk_cell hgk 8).trans rfl
    have r6 := Kd.R_reads' HP16.out
    have r7 := Kd.R_reads' HI16.out
    have r8 := Kd.R_reads' HO16.out
    have HEG := Aside0.mk (env_Good.calls k q5 q6 q7 q8 q9 q10 Ao11 co11 l11 Ao13 co13 l12 Ao15 co15 l13 g (w15.setCell ⟨g_, 8, none⟩ (.slice Ao15 l13.length co15)) r6.2.2 r6.2.1 r7.2.2 r7.2.1 r8.2.2 r8.2.1 hg1)
    clear hg1 hg2 hgk r6 r7 r8
    go_wp2_with fail
    refine HEG.out.mono ?_
    rintro e w17 ⟨rfl, hb17⟩
    have hs17 : w.heap.size ≤ (w15.setCell ⟨g_, 8, none⟩ (.slice Ao15 l13.length co15)).heap.size := HBZ.out.size
    have HBY := Aside0.mk (below_step HBZ.out hb17)
    have HMY := Aside0.mk (blk_below HMZ.out hb17)
    have HGY := Aside0.mk (blk_below HG16.out hb17)
    have HPY := Aside0.mk (Kd.R_below HP16.out hb17)
    have HIY := Aside0.mk (Kd.R_below HI16.out hb17)
    have HOY := Aside0.mk (Kd.R_below HO16.out hb17)
    clear hb17 hs17 hk0 hk1 hk2 hk3 hk4 hk5 hk6 hk7 hk8
    cases g with
    | false =>
      replace HH := Aside0.mk ((if_neg Bool.false_ne_true).symm.trans HH.out)
      obtain ⟨rfl, rfl, rfl, rfl, rfl, rfl, rfl, rfl, rfl, rfl⟩ : 0 = r1 ∧ 0 = r2 ∧ 0 = r3 ∧ 0 = r4 ∧ 0 = r5 ∧ (⟨#[]⟩ : ByteArray) = r6 ∧ [] = r7 ∧ [] = r8 ∧ [] = r9 ∧ 2 = r10 := by have h := Option.some.inj HH.out; unfold noMsg at h; simp only [Prod.mk.injEq] at h; exact h
      go_wp2_with (refine wpList_store_msg _ ?hg (.tmp 2) (.tmp 60) ?hop w.heap.size #[.int .i64 0, .int .i64 0, .int .i64 0, .int .i64 0, .int .i64 0, .string ⟨#[]⟩, .slice none 0 0, .slice none 0 0, .slice none 0 0] ?hb ?hcs (.int .i64 0) (.int .i64 0) (.int .i64 0) (.int .i64 0) (.int .i64 0) (.string ⟨#[]⟩) (.slice none 0 0) (.slice none 0 0) (.slice none 0 0) ?hp ?hx ?h1 ?_; (case hg => rfl); (case hop => rfl); (case hb => exact HMY.out); (case hcs => rfl); (case hp => rfl); (case hx => rfl); (case h1 => exact (fun v hv => by simp only [List.mem_cons, List.not_mem_nil, or_false] at hv; rcases hv with rfl | rfl | rfl | rfl | rfl | rfl | rfl | rfl | rfl <;> rfl)); obtain ⟨WE, hWE⟩ : ∃ WE, WE = World.setCells w17 w.heap.size 0 [.int .i64 0, .int .i64 0, .int .i64 0, .int .i64 0, .int .i64 0, .string ⟨#[]⟩, .slice none 0 0, .slice none 0 0, .slice none 0 0] := ⟨_, rfl⟩; (try rw [← hWE]); have hme : WE.heap[w.heap.size]? = some (.cells #[.int .i64 0, .int .i64 0, .int .i64 0, .int .i64 0, .int .i64 0, .string ⟨#[]⟩, .slice none 0 0, .slice none 0 0, .slice none 0 0] 25 (0, 0)) := (by rw [hWE]; exact put_msg HMY.out _ _ _ _ _ _ _ _ _); have HBE : Aside0 (Below w.heap.size w WE) := ⟨by rw [hWE]; exact low_cells HBY.out w.heap.size _ (Nat.le_refl _)⟩; have HME := Aside0.mk hme; clear hme hWE)
      refine bodyPost_ret (results_ct rfl _ _ w.heap.size 25 #[.int .i64 0, .int .i64 0, .int .i64 0, .int .i64 0, .int .i64 0, .string ⟨#[]⟩, .slice none 0 0, .slice none 0 0, .slice none 0 0] (0, 0) _ rfl HME.out Tryd.underlying25 rfl (by kernel_rfl)) rfl ?_
      exact ⟨.slice none 0 0, .slice none 0 0, .slice none 0 0, rfl, Kd.R_nil _ _ _ _ _, Kd.R_nil _ _ _ _ _, Kd.R_nil _ _ _ _ _, HBE.out⟩
    | true =>
      replace HH := Aside0.mk ((if_pos rfl).symm.trans HH.out)
      have hgk := HGY.out
      have hk0 := (blk_cell hgk 0).trans rfl
      have hk1 := (blk_cell hgk 1).trans rfl
      have hk2 := (blk_cell hgk 2).trans rfl
      have hk3 := (blk_cell hgk 3).trans rfl
      have hk4 := (blk_cell hgk 4).trans rfl
      have hk5 := (blk_cell hgk 5).trans rfl
      have hk6 := (blk_cell hgk 6).trans rfl
      have hk7 := (blk_cell hgk 7).trans rfl
      have hk8 := (blk_cell hgk 8).trans rfl
      clear hgk
      obtain ⟨rfl, rfl, rfl, rfl, rfl, rfl, rfl, rfl, rfl, rfl⟩ : q5 = r1 ∧ q6 = r2 ∧ q7 = r3 ∧ q8 = r4 ∧ q9 = r5 ∧ q10 = r6 ∧ l11 = r7 ∧ l12 = r8 ∧ l13 = r9 ∧ 0 = r10 := by have h := Option.some.inj HH.out; simp only [Prod.mk.injEq] at h; exact h
      go_wp2_with (refine wpList_store_msg _ ?hg (.tmp 2) (.tmp 61) ?hop w.heap.size #[.int .i64 0, .int .i64 0, .int .i64 0, .int .i64 0, .int .i64 0, .string ⟨#[]⟩, .slice none 0 0, .slice none 0 0, .slice none 0 0] ?hb ?hcs (.int .i64 q5) (.int .i64 q6) (.int .i64 q7) (.int .i64 q8) (.int .i64 q9) (.string q10) (.slice Ao11 l11.length co11) (.slice Ao13 l12.length co13) (.slice Ao15 l13.length co15) ?hp ?hx ?h1 ?_; (case hg => rfl); (case hop => rfl); (case hb => exact HMY.out); (case hcs => rfl); (case hp => rfl); (case hx => rfl); (case h1 => exact (fun v hv => by simp only [List.mem_cons, List.not_mem_nil, or_false] at hv; rcases hv with rfl | rfl | rfl | rfl | rfl | rfl | rfl | rfl | rfl <;> rfl)); obtain ⟨WE, hWE⟩ : ∃ WE, WE = World.setCells w17 w.heap.size 0 [.int .i64 q5, .int .i64 q6, .int .i64 q7, .int .i64 q8, .int .i64 q9, .string q10, .slice Ao11 l11.length co11, .slice Ao13 l12.length co13, .slice Ao15 l13.length co15] := ⟨_, rfl⟩; (try rw [← hWE]); have HME : Aside0 (WE.heap[w.heap.size]? = some (.cells #[.int .i64 q5, .int .i64 q6, .int .i64 q7, .int .i64 q8, .int .i64 q9, .string q10, .slice Ao11 l11.length co11, .slice Ao13 l12.length co13, .slice Ao15 l13.length co15] 25 (0, 0))) := ⟨by rw [hWE]; exact put_msg HMY.out _ _ _ _ _ _ _ _ _⟩; have HBE : Aside0 (Below w.heap.size w WE) := ⟨by rw [hWE]; exact low_cells HBY.out w.heap.size _ (Nat.le_refl _)⟩; have HWE := Aside0.mk hWE; clear hWE)
      refine bodyPost_ret (results_ct rfl _ _ w.heap.size 25 #[.int .i64 q5, .int .i64 q6, .int .i64 q7, .int .i64 q8, .int .i64 q9, .string q10, .slice Ao11 l11.length co11, .slice Ao13 l12.length co13, .slice Ao15 l13.length co15] (0, 0) _ rfl HME.out Tryd.underlying25 rfl (by kernel_rfl)) rfl ?_
      have e6 := Kd.R_mono (Kd.R_step (w1 := WE) (Kd.R_types HPY.out HMY.out (by decide)) (fun k hk hlt => by rw [HWE.out]; exact setCells_far _ 0 k hk.2)) (fun k hk => hk.1)
      have e7 := Kd.R_mono (Kd.R_step (w1 := WE) (Kd.R_types HIY.out HMY.out (by decide)) (fun k hk hlt => by rw [HWE.out]; exact setCells_far _ 0 k hk.2)) (fun k hk => hk.1)
      have e8 := Kd.R_mono (Kd.R_step (w1 := WE) (Kd.R_types HOY.out HMY.out (by decide)) (fun k hk hlt => by rw [HWE.out]; exact setCells_far _ 0 k hk.2)) (fun k hk => hk.1)
      exact ⟨_, _, _, rfl, Kd.R_mono e6 (fun k hk e => by have h0 := e8.1 k e.symm; have h1 := h0.2; have h2 := hk.2; omega), Kd.R_mono e7 (fun _ _ => trivial), Kd.R_mono e8 (fun k hk e => by have h0 := e6.1 k e.symm; have h1 := h0.2; have h2 := hk.2; omega), HBE.out⟩
end Go.Proofs.YtljhfaneepehcaaDoor.Hand
