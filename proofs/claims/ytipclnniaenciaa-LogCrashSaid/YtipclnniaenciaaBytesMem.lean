/- Bytes in memory: rows of bytes as lists, bytes.Clone, and what a call changes. -/
import Derived.Test.YtipclnniaenciaaShelf
import Derived.Test.YtipclnniaenciaaWMore
import Derived.Test.YtipclnniaenciaaWLast
import Derived.Test.YtipclnniaenciaaWKept
import Derived.Test.YtipclnniaenciaaWRepsOne
import Derived.WalkKit
import Derived.ProofKit
import Derived.Lib.SlBytesConst
import Derived.Lib.Bytes
namespace Go.Proofs.Ytipclnniaenciaa.Hand
open Go.RowKit Go.Proofs.YtipclnniaenciaaW.PrintWords Go.Proofs.YtipclnniaenciaaW.PrintLast Go.Proofs.YtipclnniaenciaaW.PrintMore
set_option linter.unusedVariables false
set_option linter.unusedSimpArgs false
theorem infoU8 : (Try.prog.info? 5).map (fun i => (i.zero, i.size, i.bytes)) = some (some (.int .u8 0), 1, 1) := by kernel_rfl
def mkS (l : List UInt8) : ByteArray := ⟨l.toArray⟩
def numsL (l : List UInt8) : List Int := l.map fun b => (b.toNat : Int)
theorem nums_len (l : List UInt8) : (numsL l).length = l.length := by unfold numsL; rw [List.length_map]
theorem nums_app (a b : List UInt8) : numsL (a ++ b) = numsL a ++ numsL b := by unfold numsL; rw [List.map_append]
theorem nums_take (l : List UInt8) (n : Nat) : (numsL l).take n = numsL (l.take n) := by unfold numsL; rw [List.map_take]
theorem nums_drop (l : List UInt8) (n : Nat) : (numsL l).drop n = numsL (l.drop n) := by unfold numsL; rw [List.map_drop]
theorem bytes_nums (l : List UInt8) : Lib.bytesOf (numsL l) = l := by
  unfold Lib.bytesOf numsL
  rw [List.map_map]
  conv => rhs; rw [← List.map_id l]
  exact List.map_congr_left fun b _ => by simp
theorem str_nums (l : List UInt8) : strOfNums (numsL l) = mkS l := by
  unfold mkS
  apply ByteArray.ext
  apply Array.toList_inj.1
  show (numsL l).map (fun n => UInt8.ofNat n.toNat) = l
  exact bytes_nums l
/-- A byte row that is read: it stands whatever is written elsewhere. -/
abbrev CB (w : World) (A : Option Addr) (l : List UInt8) : Prop := Kd.C (Kd.int .u8) w A (numsL l).length (numsL l)
/-- A byte row of one's own. -/
abbrev RB (w : World) (base : Nat) (ok : Nat → Prop) (v : Value) (l : List UInt8) : Prop := Kd.R (Kd.int .u8) 5 w base ok v (numsL l)
theorem RB_slice {w : World} {base : Nat} {ok : Nat → Prop} {v : Value} {l : List UInt8} (h : RB w base ok v l) : ∃ A c, v = .slice A l.length c ∧ l.length ≤ c ∧ CB w A l := by
  obtain ⟨A, c, e, hl, hC⟩ := Kd.R_reads h
  rw [nums_len] at e hl
  exact ⟨A, c, e, hl, hC⟩
theorem clone_calls (W : World) (A : Option Addr) (n c : Nat) (l : List UInt8) (hr : CB W A l) (hn : n = l.length) (hs : l.length < 100000000000000) :
    Calls Try.prog 27 #[.slice A n c] W fun e w' => ∃ v', e = .returned v' ∧ RB w' W.heap.size (fun k => W.heap.size ≤ k) v' l ∧ Below W.heap.size W w' := by
  subst hn
  have hr' := Kd.reads_of_C (d := (0 : Int)) hr
  rw [nums_len] at hr'
  cases A with
  | none =>
    have h0 : l = [] := by
      refine List.eq_nil_of_length_eq_zero (Nat.eq_zero_of_not_pos fun h => ?_)
      obtain ⟨ad, e, _⟩ := hr'.2.2 h
      cases e
    subst h0
    refine (Try.bytes_Clone_nil _ c W).mono ?_
    rintro e w' ⟨rfl, rfl⟩
    exact ⟨_, rfl, Kd.R_nil _ _ _ _ _, Below.refl _ _⟩
  | some ad =>
    refine (Try.bytes_Clone_at ad l.length c (numsL l) W (nums_len l) (by omega) (fun i hi => ?_)).mono ?_
    · obtain ⟨ad', e, hc⟩ := hr'.2.2 (by omega)
      injection e with e
      rw [e]
      exact hc i hi
    · rintro e w' ⟨v', rfl, ho, _, hb⟩
      refine ⟨v', rfl, Kd.R_of_own ?_ (fun k hk => ?_), hb⟩
      · rw [nums_len]
        exact ho
      · rcases own_base' ho with h | ⟨b, h, hb'⟩
        · rw [h] at hk
          cases hk
        · rw [h] at hk
          injection hk with hk
          omega
/-! ## What a call changes: blocks of F alone, and what is new -/
structure Chg (F : Nat → Prop) (w w' : World) : Prop where
  os : w'.os = w.os
  tape : w'.tape = w.tape
  output : w'.output = w.output
  size : w.heap.size ≤ w'.heap.size
  block : ∀ k, k < w.heap.size → ¬ F k → w'.heap[k]? = w.heap[k]?
section
variable {F G : Nat → Prop} {w w' w2 : World}
theorem Chg.refl (F : Nat → Prop) (w : World) : Chg F w w := ⟨rfl, rfl, rfl, Nat.le_refl _, fun _ _ _ => rfl⟩
theorem Chg.of_below (h : Below w.heap.size w w') (F : Nat → Prop) : Chg F w w' := ⟨h.os, h.tape, h.output, h.size, fun k hk _ => h.block k hk⟩
theorem Chg.then_ (h : Chg F w w') (k : Chg G w' w2) (hs : ∀ k, G k → F k ∨ w.heap.size ≤ k) : Chg F w w2 :=
  ⟨k.os.trans h.os, k.tape.trans h.tape, k.output.trans h.output, Nat.le_trans h.size k.size, fun i hi hn => (k.block i (Nat.lt_of_lt_of_le hi h.size) (fun hg => (hs i hg).elim hn (fun h3 => by omega))).trans (h.block i hi hn)⟩
theorem Chg.mono (h : Chg F w w') (hs : ∀ k, F k → G k ∨ w.heap.size ≤ k) : Chg G w w' := ⟨h.os, h.tape, h.output, h.size, fun i hi hn => h.block i hi (fun hk => (hs i hk).elim hn (fun h3 => by omega))⟩
theorem Chg.below (h : Chg F w w') (hb : Below w'.heap.size w' w2) : Chg F w w2 := h.then_ (Chg.of_below hb (fun _ => False)) (fun _ hk => hk.elim)
theorem Chg.of_grown {row : Option Nat} (hg : w.grownBy w' row) (hr : ∀ k, row = some k → F k ∨ w.heap.size ≤ k) : Chg F w w' :=
  ⟨hg.os, hg.tape, hg.output, hg.size, fun i hi hn => hg.block i hi (fun he => (hr i he.symm).elim hn (fun h3 => by omega))⟩
theorem Chg.grown {row : Option Nat} (h : Chg F w w') (hg : w'.grownBy w2 row) (hr : ∀ k, row = some k → F k ∨ w.heap.size ≤ k) : Chg F w w2 :=
  h.then_ (G := fun k => row = some k) (Chg.of_grown hg (fun k hk => .inl hk)) hr
theorem Chg.setCell (h : Chg F w w') {p : Addr} (hp : F p.block ∨ w.heap.size ≤ p.block) (u : Value) : Chg F w (w'.setCell p u) :=
  h.then_ (G := fun k => k = p.block) ⟨rfl, rfl, rfl, by simp [World.setCell], fun i _ hn => Below.heap_setCell w' p u i hn⟩ (fun k hk => by rw [hk]; exact hp)
theorem Chg.alloc (h : Chg F w w') (o : Obj) : Chg F w (w'.alloc o) := h.below (below_alloc (Below.refl _ _) o)
theorem Chg.drew (h : Chg F w w') : Chg F w w'.drew := ⟨h.os, h.tape, h.output, h.size, h.block⟩
theorem Chg.drewN (h : Chg F w w') (n : Nat) : Chg F w (w'.drewN n) := ⟨h.os, h.tape, h.output, h.size, h.block⟩
theorem Chg.to_below (h : Chg F w w') {B : Nat} (hF : ∀ k, F k → B ≤ k) (hB : B ≤ w.heap.size) : Below B w w' := ⟨h.os, h.tape, h.output, h.size, fun k hk => h.block k (by omega) (fun hf => by have := hF k hf; omega)⟩
theorem Chg.kept (h : Chg F w w') : Kept w w' F := ⟨h.size, h.block⟩
theorem Chg.blk {g : Nat} {o : Obj} (h : Chg F w w') (hb : w.heap[g]? = some o) (hne : ¬ F g) : w'.heap[g]? = some o := blk_kept hb h.kept hne
theorem Chg.cell {a : Addr} {v : Value} (h : Chg F w w') (hc : w.cell? a = some v) (hne : ¬ F a.block) : w'.cell? a = some v := cell_kept hc h.kept hne
end
theorem R_nomap {α : Type} {d : Kd α} {e base b : Nat} {ok : Nat → Prop} {w : World} {v : Value} {xs : List α} {es : Array MapEntry} {clock : Nat} (h : d.R e w base ok v xs) (hb : w.heap[b]? = some (.map es clock)) : d.R e w base (fun k => ok k ∧ k ≠ b) v xs :=
  Kd.R_mono (Kd.R_bound h) (fun k hk => ⟨hk.1, by
    obtain ⟨_, _, _, q, hq, cells, hc⟩ := hk
    rintro rfl
    rw [hb] at hc
    cases hc⟩)
theorem R_any {α : Type} {d : Kd α} {e base : Nat} {ok : Nat → Prop} {W : World} {v : Value} {xs : List α} (h : d.R e W base ok v xs) : d.R e W base (fun _ => True) v xs := Kd.R_mono h (fun _ _ => trivial)
theorem C_block {W : World} {k : IntKind} {g e : Nat} {fr : Nat × Nat} {xs : List Int} {cs : Array Value} (hb : W.heap[g]? = some (.cells cs e fr)) (hcs : cs = ((xs.map (Value.int k)).toArray)) (hn : xs.length ≤ 9223372036854775807) : Kd.C (Kd.int k) W (some ⟨g, 0, none⟩) xs.length xs := by
  subst hcs
  refine Kd.C_of_reads (d := (0 : Int)) ⟨rfl, hn, fun _ => ⟨_, rfl, fun j hj => ?_⟩⟩
  rw [add_plain]
  simp [World.cell?, hb, List.getD_eq_getElem?_getD, hj]
theorem C_front {w : World} {A : Option Addr} {b : List UInt8} (h : CB w A b) (n : Nat) (hn : n ≤ b.length) : CB w A (b.take n) := by
  have h1 := Kd.reads_of_C (d := (0 : Int)) h
  rw [nums_len] at h1
  have h2 := h1.take_ n hn
  rw [nums_take] at h2
  have e : (numsL (b.take n)).length = n := by rw [nums_len, List.length_take]; omega
  show Kd.C (Kd.int .u8) w A (numsL (b.take n)).length (numsL (b.take n))
  rw [e]
  exact Kd.C_of_reads (d := (0 : Int)) h2
end Go.Proofs.Ytipclnniaenciaa.Hand
