/- A row that was cut to less, its capacity too ('slices.Clip(s[:n])'): it is read, never written. -/
import Derived.Test.YtjkaicfakccmiaaDoorWMore
import Derived.Test.YtjkaicfakccmiaaDoorWLast
import Derived.WalkKit
namespace Go.Proofs.YtjkaicfakccmiaaDoorW.PrintWords.Kd
open Go.RowKit Go.Proofs.YtjkaicfakccmiaaDoorW.PrintWords
set_option linter.unusedVariables false
def Z {α : Type} (d : Kd α) (e : Nat) (w : World) (base : Nat) (ok : Nat → Prop) (v : Value) (xs : List α) : Prop :=
  ∃ A n c m ys, d.R e w base ok (.slice A n c) ys ∧ v = .slice A xs.length m ∧ xs.length ≤ m ∧ xs = ys.take xs.length
section
variable {α : Type} {d : Kd α} {e : Nat} {w w1 W : World} {base : Nat} {ok ok' : Nat → Prop} {u v v1 : Value} {xs : List α}
theorem own_slice (A : Option Addr) (n c m k : Nat) : (Value.slice A n c).ownBlock = (Value.slice A m k).ownBlock := by cases A <;> rfl
theorem Z_imp {e' base' : Nat} (h : Z d e w base ok v xs) (f : ∀ v' ys, v'.ownBlock = v.ownBlock → d.R e w base ok v' ys → d.R e w1 base' ok' v' ys) : Z d e w1 base' ok' v xs := by
  obtain ⟨A, n, c, m, ys, h1, rfl, h2, h3⟩ := h
  exact ⟨A, n, c, m, ys, f _ _ (own_slice _ _ _ _ _) h1, rfl, h2, h3⟩
theorem Z_nil (d : Kd α) (e : Nat) (w : World) (base : Nat) (ok : Nat → Prop) : Z d e w base ok (.slice none 0 0) [] := ⟨none, 0, 0, 0, [], R_nil _ _ _ _ _, rfl, Nat.le_refl _, rfl⟩
theorem Z_mono (h : Z d e w base ok v xs) (hok : ∀ k, ok k → ok' k) : Z d e w base ok' v xs := Z_imp (e' := e) h fun _ _ _ h => R_mono h hok
theorem Z_lower {base' : Nat} (h : Z d e w base ok v xs) (hb : base' ≤ base) : Z d e w base' ok v xs := Z_imp (e' := e) h fun _ _ _ h => R_lower h hb
theorem Z_below (h : Z d e w base ok v xs) (hb : Below w.heap.size w w1) : Z d e w1 base ok v xs := Z_imp (e' := e) h fun _ _ _ h => R_below h hb
theorem Z_alloc (h : Z d e w base ok v xs) (o : Obj) : Z d e (w.alloc o) base ok v xs := Z_below h (below_alloc (Below.refl _ _) o)
theorem Z_drew (h : Z d e w base ok v xs) : Z d e w.drew base ok v xs := Z_below h (below_drew (Below.refl _ _))
theorem Z_drewN (h : Z d e w base ok v xs) (m : Nat) : Z d e (w.drewN m) base ok v xs := Z_below h (pw_below_drewN (Below.refl _ _) m)
theorem Z_far (h : Z d e w base ok v xs) {p : Addr} (hok : ∀ k, ok k → k ≠ p.block) (u : Value) : Z d e (w.setCell p u) base ok v xs := Z_imp (e' := e) h fun _ _ _ h => R_far h hok u
theorem Z_types (h : Z d e w base ok v xs) {g t : Nat} {cells : Array Value} (hb : w.heap[g]? = some (.cells cells t (0, 0))) (ht : ∀ q, q ∈ e :: d.E → q ≠ t) : Z d e w base (fun k => ok k ∧ k ≠ g) v xs := Z_imp (e' := e) h fun _ _ _ h => R_types h hb ht
theorem Z_lt (h : Z d e w base ok v xs) : ∀ k, v.ownBlock = some k → k < w.heap.size := by
  obtain ⟨A, n, c, m, ys, h1, rfl, h2, h3⟩ := h
  exact fun k hk => R_lt h1 k ((own_slice _ _ _ _ _).trans hk)
theorem Z_base (h : Z d e w base ok v xs) : ∀ k, v.ownBlock = some k → base ≤ k := by
  obtain ⟨A, n, c, m, ys, h1, rfl, h2, h3⟩ := h
  exact fun k hk => R_base h1 k ((own_slice _ _ _ _ _).trans hk)
theorem Z_slice (h : Z d e w base ok v xs) : ∃ A c, v = .slice A xs.length c ∧ xs.length ≤ c := by
  obtain ⟨A, n, c, m, ys, h1, rfl, h2, h3⟩ := h
  exact ⟨A, m, rfl, h2⟩
theorem Z_reads' {A : Option Addr} {n c : Nat} (h : Z d e w base ok (.slice A n c) xs) : n = xs.length ∧ n ≤ c ∧ d.C w A xs.length xs := by
  obtain ⟨A', n', c', m, ys, h1, h0, h2, h3⟩ := h
  injection h0 with h00 h01 h02
  subst h00 h01 h02
  refine ⟨rfl, h2, ?_⟩
  have hl := congrArg List.length h3
  rw [List.length_take] at hl
  have hC := (R_reads' h1).2.2
  rw [h3]
  exact C_take hC (by omega)
theorem Z_after {u v1 : Value} {ys : List α} {e' : Nat} (h : Z d e' W base (fun k => ok k ∧ some k ≠ v.ownBlock) u ys) (hg : W.grownBy w1 v.ownBlock) (hat : v1.ownBlock = v.ownBlock ∨ ∃ b, v1.ownBlock = some b ∧ W.heap.size ≤ b) : Z d e' w1 base (fun k => ok k ∧ some k ≠ v1.ownBlock) u ys := Z_imp (e' := e') h fun _ _ _ h => R_after h hg hat
theorem Z_elder' (hu : Z d e W base ok u xs) (hbase : ∀ k, v.ownBlock = some k → W.heap.size ≤ k) (hb : Below W.heap.size W w1) : Z d e w1 base (fun k => ok k ∧ some k ≠ v.ownBlock) u xs := Z_imp (e' := e) hu fun _ _ _ h => R_elder' h hbase hb
theorem Z_new' (h : Z d e w1 W.heap.size ok v xs) (hlt : ∀ k, u.ownBlock = some k → k < W.heap.size) : Z d e w1 W.heap.size (fun k => ok k ∧ some k ≠ u.ownBlock) v xs := Z_imp (e' := e) h fun _ _ _ h => R_new' h hlt
end
end Go.Proofs.YtjkaicfakccmiaaDoorW.PrintWords.Kd
