/- What a call changes in memory: blocks of a set alone, and what is new. -/
import Derived.Test.YtebmhjiogomheaaPAx
import Derived.Test.YtebmhjiogomheaaWMore
import Derived.Test.YtebmhjiogomheaaWLast
import Derived.Test.YtebmhjiogomheaaWKept
import Derived.WalkKit
import Derived.ProofKit
namespace Go.Proofs.Ytebmhjiogomheaa.Hand
open Go.RowKit Go.Proofs.YtebmhjiogomheaaW.PrintWords Go.Proofs.YtebmhjiogomheaaW.PrintLast Go.Proofs.YtebmhjiogomheaaW.PrintMore
set_option linter.unusedVariables false
/-! ## What a call changes: blocks of F alone, and what is new -/
structure Chg (F : Nat → Prop) (w w' : World) : Prop where
  os : w'.os = w.os
  tape : w'.tape = w.tape
  output : w'.output = w.output
  size : w.heap.size ≤ w'.heap.size
  block : ∀ k, k < w.heap.size → ¬ F k → w'.heap[k]? = w.heap[k]?
section
variable {F G : Nat → Prop} {w w' w2 : World}
theorem Chg.refl (F : Nat → Prop) (w : World) : Chg F w w := ⟨rfl, rfl, rfl, Nat.le_refl _, fun _ _ _ => rfl⟩
theorem Chg.of_below (h : Below w.heap.size w w') (F : Nat → Prop) : Chg F w w' := ⟨h.os, h.tape, h.output, h.size, fun k hk _ => h.block k hk⟩
theorem Chg.then_ (h : Chg F w w') (k : Chg G w' w2) (hs : ∀ k, G k → F k ∨ w.heap.size ≤ k) : Chg F w w2 :=
  ⟨k.os.trans h.os, k.tape.trans h.tape, k.output.trans h.output, Nat.le_trans h.size k.size, fun i hi hn => (k.block i (Nat.lt_of_lt_of_le hi h.size) (fun hg => (hs i hg).elim hn (fun h3 => by omega))).trans (h.block i hi hn)⟩
theorem Chg.mono (h : Chg F w w') (hs : ∀ k, F k → G k ∨ w.heap.size ≤ k) : Chg G w w' := ⟨h.os, h.tape, h.output, h.size, fun i hi hn => h.block i hi (fun hk => (hs i hk).elim hn (fun h3 => by omega))⟩
theorem Chg.below (h : Chg F w w') (hb : Below w'.heap.size w' w2) : Chg F w w2 := h.then_ (Chg.of_below hb (fun _ => False)) (fun _ hk => hk.elim)
theorem Chg.of_grown {row : Option Nat} (hg : w.grownBy w' row) (hr : ∀ k, row = some k → F k ∨ w.heap.size ≤ k) : Chg F w w' :=
  ⟨hg.os, hg.tape, hg.output, hg.size, fun i hi hn => hg.block i hi (fun he => (hr i he.symm).elim hn (fun h3 => by omega))⟩
theorem Chg.grown {row : Option Nat} (h : Chg F w w') (hg : w'.grownBy w2 row) (hr : ∀ k, row = some k → F k ∨ w.heap.size ≤ k) : Chg F w w2 :=
  h.then_ (G := fun k => row = some k) (Chg.of_grown hg (fun k hk => .inl hk)) hr
theorem Chg.setCell (h : Chg F w w') {p : Addr} (hp : F p.block ∨ w.heap.size ≤ p.block) (u : Value) : Chg F w (w'.setCell p u) :=
  h.then_ (G := fun k => k = p.block) ⟨rfl, rfl, rfl, by simp [World.setCell], fun i _ hn => Below.heap_setCell w' p u i hn⟩ (fun k hk => by rw [hk]; exact hp)
theorem Chg.alloc (h : Chg F w w') (o : Obj) : Chg F w (w'.alloc o) := h.below (below_alloc (Below.refl _ _) o)
theorem Chg.drew (h : Chg F w w') : Chg F w w'.drew := ⟨h.os, h.tape, h.output, h.size, h.block⟩
theorem Chg.drewN (h : Chg F w w') (n : Nat) : Chg F w (w'.drewN n) := ⟨h.os, h.tape, h.output, h.size, h.block⟩
theorem Chg.to_below (h : Chg F w w') {B : Nat} (hF : ∀ k, F k → B ≤ k) (hB : B ≤ w.heap.size) : Below B w w' := ⟨h.os, h.tape, h.output, h.size, fun k hk => h.block k (by omega) (fun hf => by have := hF k hf; omega)⟩
theorem Chg.kept (h : Chg F w w') : Kept w w' F := ⟨h.size, h.block⟩
theorem Chg.blk {g : Nat} {o : Obj} (h : Chg F w w') (hb : w.heap[g]? = some o) (hne : ¬ F g) : w'.heap[g]? = some o := blk_kept hb h.kept hne
theorem Chg.cell {a : Addr} {v : Value} (h : Chg F w w') (hc : w.cell? a = some v) (hne : ¬ F a.block) : w'.cell? a = some v := cell_kept hc h.kept hne
end
end Go.Proofs.Ytebmhjiogomheaa.Hand
