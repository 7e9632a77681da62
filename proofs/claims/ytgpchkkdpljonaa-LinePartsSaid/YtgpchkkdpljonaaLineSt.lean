/- A reader and the lines that were gathered from it, each in memory of its own. -/
import Derived.Test.YtgpchkkdpljonaaLinePure
namespace Go.Proofs.Ytgpchkkdpljonaa.Hand
open Go.RowKit Go.Proofs.YtgpchkkdpljonaaW.PrintWords Go.Proofs.YtgpchkkdpljonaaW.PrintLast Go.Proofs.YtgpchkkdpljonaaW.PrintMore Go.Proofs.Ytgpchkkdpljonaa.PY
set_option linter.unusedVariables false
set_option linter.unusedSimpArgs false
abbrev LS := S29
structure St (W : World) (base p : Nat) (vr vg : Value) (l : List UInt8) (ls : List LS) : Prop where
  pos : base ≤ p
  cell : W.heap[p]? = some (.cells #[vr] 42 (0, 0))
  row : Kd.R (Kd.int .u8) 5 W base (fun _ => True) vr (numsL l)
  got : Kd.R k29 29 W base (fun _ => True) vg ls
  far : ∀ k, vr.ownBlock = some k → k ≠ p
  far2 : ∀ k, vg.ownBlock = some k → k ≠ p ∧ vr.ownBlock ≠ some k
theorem R_same {α : Type} {d : Kd α} (hE : d.E = []) {e base : Nat} {ok : Nat → Prop} {W W' : World} {v : Value} {xs : List α} (h : d.R e W base ok v xs) (hk : ∀ k, v.ownBlock = some k → k < W.heap.size → W'.heap[k]? = W.heap[k]?) : d.R e W' base ok v xs :=
  Kd.R_mono (Kd.R_step (Kd.R_tight2 hE h) (fun k ho hlt => hk k ho.1.symm hlt)) (fun k ho => ho.2)
theorem R_any {α : Type} {d : Kd α} {e base : Nat} {ok : Nat → Prop} {W : World} {v : Value} {xs : List α} (h : d.R e W base ok v xs) : d.R e W base (fun _ => True) v xs := Kd.R_mono h (fun _ _ => trivial)
theorem St.rdr {W : World} {base p : Nat} {vr vg : Value} {l : List UInt8} {ls : List LS} (h : St W base p vr vg l ls) : Rdr W base p vr l := ⟨h.pos, h.cell, Kd.R_reok rfl h.row h.far⟩
theorem R_lt {α : Type} {d : Kd α} {e base : Nat} {ok : Nat → Prop} {W : World} {v : Value} {xs : List α} (h : d.R e W base ok v xs) (k : Nat) (hk : v.ownBlock = some k) : k < W.heap.size := by
  obtain ⟨inner, ho⟩ := Kd.R_own h
  exact own_lt ho k hk
theorem St.same {W W' : World} {base p : Nat} {vr vg : Value} {l : List UInt8} {ls : List LS} (h : St W base p vr vg l ls) (hk : ∀ k, k < W.heap.size → (k = p ∨ vr.ownBlock = some k ∨ vg.ownBlock = some k) → W'.heap[k]? = W.heap[k]?) : St W' base p vr vg l ls :=
  ⟨h.pos, (hk p (blk_lt h.cell) (.inl rfl)).trans h.cell, R_same rfl h.row (fun k ho hl => hk k hl (.inr (.inl ho))), R_same rfl h.got (fun k ho hl => hk k hl (.inr (.inr ho))), h.far, h.far2⟩
theorem St.below {W W' : World} {base p : Nat} {vr vg : Value} {l : List UInt8} {ls : List LS} (h : St W base p vr vg l ls) (hb : Below W.heap.size W W') : St W' base p vr vg l ls := h.same (fun k hk _ => hb.block k hk)
/-- A block that none of it is has been written. -/
theorem St.other {W W' : World} {base p g : Nat} {vr vg : Value} {l : List UInt8} {ls : List LS} (h : St W base p vr vg l ls) (hb : Kept W W' (fun k => k = g)) (hg : g ≠ p ∧ vr.ownBlock ≠ some g ∧ vg.ownBlock ≠ some g) : St W' base p vr vg l ls := h.same (fun k hk ho => hb.2 k hk (fun e => by
  subst e
  rcases ho with ho | ho | ho
  · exact hg.1 ho
  · exact hg.2.1 ho
  · exact hg.2.2 ho))
theorem St.new (W : World) (base : Nat) (hb : base ≤ W.heap.size) : St (W.alloc (.cells #[.slice none 0 0] 42)) base W.heap.size (.slice none 0 0) (.slice none 0 0) [] [] :=
  ⟨hb, heap_alloc_new W _, Kd.R_nil _ _ _ _ _, Kd.R_nil _ _ _ _ _, (fun k hk => by cases hk), (fun k hk => by cases hk)⟩
/-- What Feed and Next leave: the reader turned, the lines as they were. -/
theorem St.turned {W W' : World} {base p : Nat} {vr vg v' : Value} {l l' : List UInt8} {ls : List LS} (h : St W base p vr vg l ls) (hR : Rdr W' base p v' l') (hk : Kept W W' (fun k => k = p ∨ some k = vr.ownBlock)) (hv : ∀ k, v'.ownBlock = some k → vr.ownBlock = some k ∨ W.heap.size ≤ k) : St W' base p v' vg l' ls :=
  ⟨h.pos, hR.2.1, R_any hR.2.2, R_same rfl h.got (fun k ho hl => hk.2 k hl (fun e => e.elim (fun e => (h.far2 k ho).1 e) (fun e => (h.far2 k ho).2 e.symm))), fun k ho => hR.2.2.1 k ho, fun k ho => ⟨(h.far2 k ho).1, fun e => (hv k e).elim (fun e2 => (h.far2 k ho).2 e2) (fun e2 => by have := R_lt h.got k ho; omega)⟩⟩
theorem St.Feed {W : World} {base p : Nat} {vr vg : Value} {l : List UInt8} {ls : List LS} (h : St W base p vr vg l ls) (hbase : base ≤ W.heap.size) (A : Option Addr) (c : Nat) (xs : List UInt8) (hr : Kd.C (Kd.int .u8) W A (numsL xs).length (numsL xs)) (hsz : l.length + xs.length ≤ 1000000000000) :
    Calls Try.prog 9 #[.pointer (some ⟨p, 0, none⟩), .slice A (numsL xs).length c] W fun e w' => ∃ v', e = .returned (.tuple #[]) ∧ St w' base p v' vg (l ++ xs) ls ∧ Below base W w' ∧ Kept W w' (fun k => k = p ∨ some k = vr.ownBlock) ∧ (∀ k, v'.ownBlock = some k → vr.ownBlock = some k ∨ W.heap.size ≤ k) := by
  refine (Feed_calls W base p vr l xs A c h.rdr hbase hr hsz).mono ?_
  rintro e w' ⟨v', rfl, hR, hb, hk, hv⟩
  exact ⟨v', rfl, h.turned hR hk hv, hb, hk, hv⟩
theorem St.Next {W : World} {base p : Nat} {vr vg : Value} {l : List UInt8} {ls : List LS} (h : St W base p vr vg l ls) (hbase : base ≤ W.heap.size) (most m : Int) (hsz : l.length < 1000000000) (hm : W.cell? ⟨0, 0, none⟩ = some (.int .i64 m)) :
    Calls Try.prog 10 #[.pointer (some ⟨p, 0, none⟩), .int .i64 most] W fun e w' => ∃ v', e = .returned (.tuple #[.agg #[.int .i64 (nextL most l).1.1, .string (nextL most l).1.2.1], .bool (nextL most l).1.2.2]) ∧ St w' base p v' vg (nextL most l).2 ls ∧ Below base W w' := by
  refine (Next_calls W base p vr l most m h.rdr hbase hsz hm).mono ?_
  rintro e w' ⟨v', rfl, hR, hb, hk, hv⟩
  exact ⟨v', rfl, h.turned hR (hk.mono (fun k e => .inl e)) hv, hb⟩
theorem next_lines (most : Int) (l : List UInt8) (h : 0 ≤ Lib.index l [13, 10]) : ∃ (s : LS) (r : List UInt8), nextL most l = ((s.f0, s.f1, true), r) ∧ linesL most l = (s :: (linesL most r).1, (linesL most r).2) ∧ r.length + 2 ≤ l.length := by
  refine ⟨lineS most (l.take (Lib.index l [13, 10]).toNat), l.drop ((Lib.index l [13, 10]).toNat + 2), ?_, linesL_hit most l h, ?_⟩
  · unfold nextL
    rw [if_pos h]
    rfl
  · have := index_room2 l h
    rw [List.length_drop]
    omega
theorem next_no (most : Int) (l : List UInt8) (h : ¬ 0 ≤ Lib.index l [13, 10]) : nextL most l = ((0, ⟨#[]⟩, false), l) ∧ linesL most l = ([], l) := ⟨by unfold nextL; rw [if_neg h], linesL_miss most l h⟩
theorem R_empty (W : World) (base : Nat) (hb : base ≤ W.heap.size) : Kd.R (Kd.int .u8) 5 (W.alloc (.cells #[] 5)) base (fun _ => True) (.slice (some ⟨W.heap.size, 0, none⟩) 0 0) ([] : List Int) :=
  Kd.R_of_own ⟨rfl, .inr ⟨W.heap.size, 0, #[], rfl, hb, heap_alloc_new W _, Nat.le_refl _, Nat.zero_le _, rfl, rfl⟩⟩ (fun _ _ => trivial)
theorem R_block {α : Type} {d : Kd α} {e base : Nat} {ok : Nat → Prop} {W : World} {v : Value} {xs : List α} (h : d.R e W base ok v xs) (hn : 0 < xs.length) : ∃ g cap, v = .slice (some ⟨g, 0, none⟩) xs.length cap ∧ base ≤ g ∧ g < W.heap.size ∧ xs.length ≤ cap ∧ d.C W (some ⟨g, 0, none⟩) xs.length xs := by
  obtain ⟨inner, ho⟩ := Kd.R_own h
  obtain ⟨A, c, e1, hl, hC⟩ := Kd.R_reads h
  rcases ho.2 with ⟨_, h2⟩ | ⟨g, cap, cur, rfl, hb, hh, _⟩
  · omega
  · injection e1 with e2 e3 e4
    subst e2 e4
    exact ⟨g, cap, rfl, hb, blk_lt hh, hl, hC⟩
theorem C_part {w : World} {A : Option Addr} {b : List UInt8} (h : Kd.C (Kd.int .u8) w A (numsL b).length (numsL b)) (c q en : Nat) (hq : q < b.length) (he : en ≤ b.length) (hqe : q ≤ en) (hc : b.length ≤ c) : Kd.C (Kd.int .u8) w (A.map (·.add q)) (en - q) (numsL ((b.drop q).take (en - q))) := by
  have h1 := Kd.reads_of_C (d := (0 : Int)) h
  rw [nums_len] at h1
  have h2 := (ReadsInt.drop_ (c := c) h1 q (by omega) hc).take_ (en - q) (by omega)
  rw [if_neg (by omega), nums_drop, nums_take] at h2
  exact Kd.C_of_reads (d := (0 : Int)) h2
theorem C_front {w : World} {A : Option Addr} {b : List UInt8} (h : Kd.C (Kd.int .u8) w A (numsL b).length (numsL b)) (n : Nat) (hn : n ≤ b.length) : Kd.C (Kd.int .u8) w A (numsL (b.take n)).length (numsL (b.take n)) := by
  have h1 := Kd.reads_of_C (d := (0 : Int)) h
  rw [nums_len] at h1
  have h2 := h1.take_ n hn
  rw [nums_take] at h2
  have e : (numsL (b.take n)).length = n := by rw [nums_len, List.length_take]; omega
  rw [e]
  exact Kd.C_of_reads (d := (0 : Int)) h2
theorem lines_at {w : World} {A : Option Addr} {c : Nat} {b : List UInt8} (h : Kd.C (Kd.int .u8) w A (numsL b).length (numsL b)) (hc : b.length ≤ c) (n : Nat) (hn : n ≤ b.length) (hb : b.length < 1000000) (most : Int) :
    Calls Try.prog 11 #[.slice A n c, .int .i64 most] w fun e w' => ∃ (v0 : Value) (A1 : Option Addr) (c1 : Nat), e = .returned (.tuple #[v0, .slice A1 (linesL most (b.take n)).2.length c1]) ∧ Kd.R k29 29 w' w.heap.size (fun _ => True) v0 (linesL most (b.take n)).1 ∧ Below w.heap.size w w' := by
  have hl : (b.take n).length = n := by rw [List.length_take]; omega
  have h2 := Lines_read (2 * (b.take n).length + 2) A c (numsL (b.take n)) most (linesL most (b.take n)).1 (numsL (linesL most (b.take n)).2) w (C_front h n hn) (by rw [nums_len, hl]; omega) (lines_ref (b.take n) most (by omega))
  rw [nums_len, hl] at h2
  refine h2.mono ?_
  rintro e w' ⟨v0, A1, c1, rfl, hR, _, _, hb⟩
  rw [nums_len]
  exact ⟨v0, A1, c1, rfl, hR, hb⟩
def sliceLen : Value → Nat
  | .slice _ n _ => n
  | _ => 0
theorem St.append {W w1 : World} {base p : Nat} {vr vg v1 : Value} {l : List UInt8} {ls ls' : List LS} (h : St W base p vr vg l ls) (hR : Kd.R k29 29 w1 base (fun _ => True) v1 ls') (hg : W.grownBy w1 vg.ownBlock) (hat : v1.ownBlock = vg.ownBlock ∨ ∃ b, v1.ownBlock = some b ∧ W.heap.size ≤ b) : St w1 base p vr v1 l ls' :=
  ⟨h.pos, blk_grown h.cell hg (fun e => (h.far2 p e.symm).1 rfl), R_same rfl h.row (fun k ho hl => hg.block k hl (fun e => (h.far2 k e.symm).2 ho)), hR, h.far, fun k hk => by
    rcases hat with e | ⟨b, e, hb⟩
    · exact h.far2 k (e ▸ hk)
    · rw [e] at hk
      injection hk with hk
      subst hk
      have h1 := blk_lt h.cell
      exact ⟨by omega, fun e2 => by have := R_lt h.row b e2; omega⟩⟩
theorem take_part (b : List UInt8) (q en : Nat) (h : q ≤ en) : b.take en = b.take q ++ (b.drop q).take (en - q) := by
  have : en = q + (en - q) := by omega
  conv => lhs; rw [this, List.take_add]
end Go.Proofs.Ytgpchkkdpljonaa.Hand
