/- '[]byte(s)', a loop that turns each byte in its place, 'string(b)': Lower of addr and of the document. -/
import Derived.Test.YtljhfaneepehcaaDoorHandStr
import Derived.Test.YtljhfaneepehcaaDoorWMore
import Derived.Test.YtljhfaneepehcaaDoorAddrSpec
import Derived.Laws.IdiomStrings
import Derived.WalkKit
import Derived.ProofKit
namespace Go.Proofs.YtljhfaneepehcaaDoor.Hand
open Go.RowKit Go.Proofs.YtljhfaneepehcaaDoorW.PrintWords Go.Proofs.YtljhfaneepehcaaDoorW.PrintLast Go.Proofs.YtljhfaneepehcaaDoorW.PrintMore Go.Proofs.YtljhfaneepehcaaDoor.Addr
set_option linter.unusedVariables false
set_option linter.unusedSimpArgs false

/-- Bytes at the head of a block that may bear a mark behind its cells. -/
def BRow (w : World) (g e : Nat) (l : List UInt8) : Prop :=
  ∃ cs fr, w.heap[g]? = some (.cells cs e fr) ∧ l.length ≤ cs.size ∧ cs.size ≤ fr.1 ∧ ∀ j (hj : j < l.length), cs[j]? = some (.int .u8 (l[j].toNat : Int))
theorem BRow.cell {w : World} {g e : Nat} {l : List UInt8} (h : BRow w g e l) (j : Nat) (hj : j < l.length) : w.cell? ⟨g, j, none⟩ = some (.int .u8 (l[j].toNat : Int)) := by
  obtain ⟨cs, fr, h1, h2, h3, h4⟩ := h
  rw [cell_of_row w g j cs e fr h1]
  exact h4 j hj
theorem BRow.frozen {w : World} {g e : Nat} {l : List UInt8} (h : BRow w g e l) (j : Nat) (hj : j < l.length) : w.frozen? ⟨g, j, none⟩ = false := by
  obtain ⟨cs, fr, h1, h2, h3, h4⟩ := h
  simp [World.frozen?, h1]
  omega
theorem BRow.set {w : World} {g e : Nat} {l : List UInt8} (h : BRow w g e l) (k : Nat) (hk : k < l.length) (c : UInt8) (v : Value) (hv : v = .int .u8 (c.toNat : Int)) : BRow (w.setCell ⟨g, k, none⟩ v) g e (l.set k c) := by
  subst hv
  obtain ⟨cs, fr, h1, h2, h3, h4⟩ := h
  refine ⟨cs.setIfInBounds k (.int .u8 (c.toNat : Int)), fr, ?_, by simpa using h2, by simpa using h3, fun j hj => ?_⟩
  · have hg : g < w.heap.size := (Array.getElem?_eq_some_iff.1 h1).1
    simp [World.setCell, World.setCells, Array.getElem?_modify, h1]
  · have hj' : j < l.length := by simpa using hj
    rw [List.getElem_set]
    by_cases e : k = j
    · subst e
      rw [if_pos rfl]
      simp [show k < cs.size from by omega]
    · rw [if_neg e, Array.getElem?_setIfInBounds_ne e]
      exact h4 j hj'
theorem BRow.drew {w : World} {g e : Nat} {l : List UInt8} (h : BRow w g e l) (n : Nat) : BRow (w.drewN n) g e l := h
theorem BRow.made (w : World) (e : Nat) (s : ByteArray) (cap : Nat) : BRow (w.drew.alloc (.cells (bytesRow s cap) e ((bytesRow s cap).size, (bytesRow s cap).size + 1))) w.heap.size e s.data.toList := by
  refine ⟨bytesRow s cap, ((bytesRow s cap).size, (bytesRow s cap).size + 1), by show (w.heap.push _)[w.heap.size]? = _; simp, ?_, Nat.le_refl _, fun j hj => ?_⟩
  · unfold bytesRow
    simp
  · have hj' : j < s.data.size := by simpa using hj
    rw [bytesRow_at s cap j hj']
    simp
def low (l : List UInt8) (k : Nat) : List UInt8 := (l.take k).map lowerB ++ l.drop k
theorem low_len (l : List UInt8) (k : Nat) : (low l k).length = l.length := by unfold low; simp; omega
theorem low_at (l : List UInt8) (k : Nat) (h : k < l.length) (h2 : k < (low l k).length) : (low l k)[k] = l[k] := by
  have : (low l k)[k]? = l[k]? := by
    unfold low
    rw [List.getElem?_append_right (by rw [List.length_map, List.length_take]; omega), List.length_map, List.length_take, List.getElem?_drop]
    congr 1
    omega
  rw [List.getElem?_eq_getElem h, List.getElem?_eq_getElem h2] at this
  exact Option.some.inj this
theorem low_succ (l : List UInt8) (k : Nat) (h : k < l.length) : (low l k).set k (lowerB l[k]) = low l (k + 1) := by
  unfold low
  rw [List.set_append_right _ _ (by rw [List.length_map, List.length_take]; omega), List.drop_eq_getElem_cons h]
  have : k - ((l.take k).map lowerB).length = 0 := by simp; omega
  rw [this, List.set_cons_zero, List.take_succ_eq_append_getElem h, List.map_append, List.append_assoc]
  rfl
theorem low_keep (l : List UInt8) (k : Nat) (h : k < l.length) (hk : lowerB l[k] = l[k]) : low l (k + 1) = low l k := by
  rw [← low_succ l k h, hk]
  have h2 : k < (low l k).length := by rw [low_len]; exact h
  have := List.set_getElem_self h2
  rw [low_at l k h h2] at this
  exact this
theorem low_all (l : List UInt8) : low l l.length = lowerL l := by unfold low lowerL; simp
theorem low_zero (l : List UInt8) : low l 0 = l := by unfold low; simp

def addr_Lower.f (s : ByteArray) : Option ByteArray := if s.size < 1000000000000 then some (mk (lowerL s.data.toList)) else none
set_option maxHeartbeats 8000000 in
theorem addr_Lower.calls (s r : ByteArray) (w : World) (h : addr_Lower.f s = some r) :
    Calls Tryd.prog 48 #[.string s] w fun e w' => e = .returned (.string r) ∧ Below w.heap.size w w' := by
  unfold addr_Lower.f at h
  by_cases hs : s.size < 1000000000000
  case neg => rw [if_neg hs] at h; cases h
  rw [if_pos hs] at h
  obtain rfl := Option.some.inj h
  clear h
  have kc := fun w s => run_bytes_of_string (P := Tryd.prog) w 9 28 5 s Tryd.underlying9 Tryd.underlying28 Tryd.underlying5
  go_enter Tryd.func48, Tryd.ntmps48
  go_wp2
  generalize grownCap w s.size 0 5 = cap
  go_loopw [10] (fun v10 wr => ∃ k : Nat, v10 = .int .i64 k ∧ k ≤ s.size ∧ Aside0 (BRow wr w.heap.size 5 (low s.data.toList k) ∧ Below w.heap.size w wr)) (fun v10 _ => s.size - (intOf v10).toNat)
  case atStart =>
    refine ⟨0, rfl, Nat.zero_le _, ⟨?_, ?_⟩⟩
    · rw [low_zero]
      exact BRow.made w _ s cap
    · repeat (first | exact Below.refl _ _ | apply below_alloc | apply pw_below_drewN | apply below_drew1)
  case round =>
    obtain ⟨k, rfl, hk, HI⟩ := hrel
    by_cases hlt : k < s.size
    · have hlt2 : k < s.data.toList.length := by rw [size_list]; exact hlt
      have hlt3 : k < (low s.data.toList k).length := by rw [low_len]; exact hlt2
      obtain ⟨c, hc⟩ : ∃ c, c = s.data.toList[k] := ⟨_, rfl⟩
      have hx := HI.out.1.cell k hlt3
      rw [low_at _ k hlt2 hlt3, ← hc] at hx
      have hf := HI.out.1.frozen k hlt3
      have HC := Aside0.mk hc
      clear hc
      have hgs := HI.out.2.size
      rcases lower_lt c with ⟨h1, h2, h3⟩ | ⟨h1, h2⟩
      · have h1' : 65 ≤ (c.toNat : Int) := by have : (65 : UInt8).toNat ≤ c.toNat := h1; have e : (65 : UInt8).toNat = 65 := rfl; omega
        have h2' : (c.toNat : Int) ≤ 90 := by have : c.toNat ≤ (90 : UInt8).toNat := h2; have e : (90 : UInt8).toNat = 90 := rfl; omega
        clear h1 h2
        go_wp2
        go_roundw
        case rel =>
          refine ⟨k + 1, by go_num, by omega, ⟨?_, below_set HI.out.2 (Nat.le_refl _)⟩⟩
          have hs1 := low_succ s.data.toList k hlt2
          rw [← HC.out] at hs1
          rw [← hs1]
          exact HI.out.1.set k hlt3 (lowerB c) _ (by rw [h3]; congr 1 <;> omega)
        case measure => simp [intOf]; omega
      · have h1' : ¬ (65 ≤ (c.toNat : Int) ∧ (c.toNat : Int) ≤ 90) := fun h => h1 ⟨by show (65 : UInt8).toNat ≤ c.toNat; have e : (65 : UInt8).toNat = 65 := rfl; omega, by show c.toNat ≤ (90 : UInt8).toNat; have e : (90 : UInt8).toNat = 90 := rfl; omega⟩
        clear h1
        by_cases h65 : 65 ≤ (c.toNat : Int)
        · have h90 : ¬ (c.toNat : Int) ≤ 90 := fun h => h1' ⟨h65, h⟩
          clear h1'
          go_wp2
          go_roundw
          case rel => exact ⟨k + 1, by go_num, by omega, ⟨by rw [low_keep s.data.toList k hlt2 (by rw [← HC.out]; exact h2)]; exact HI.out.1, HI.out.2⟩⟩
          case measure => simp [intOf]; omega
        · clear h1'
          go_wp2
          go_roundw
          case rel => exact ⟨k + 1, by go_num, by omega, ⟨by rw [low_keep s.data.toList k hlt2 (by rw [← HC.out]; exact h2)]; exact HI.out.1, HI.out.2⟩⟩
          case measure => simp [intOf]; omega
    · obtain rfl : k = s.size := by omega
      have hcv := run_convert_bytes_back (P := Tryd.prog) wr 28 9 5 ⟨w.heap.size, 0, none⟩ cap (low s.data.toList s.size) Tryd.underlying28 Tryd.underlying5 Tryd.underlying9 (fun j hj => by
        rw [Addr.add_lit, Nat.zero_add]
        exact HI.out.1.cell j hj)
      rw [low_len, size_list] at hcv
      go_wp2
      go_ret
      refine ⟨?_, HI.out.2⟩
      have := low_all s.data.toList
      rw [size_list] at this
      rw [this]
      rfl
def ref_Lower.f (s : ByteArray) : Option ByteArray := if s.size < 1000000000000 then some (mk (lowerL s.data.toList)) else none
set_option maxHeartbeats 8000000 in
theorem ref_Lower.calls (s r : ByteArray) (w : World) (h : ref_Lower.f s = some r) :
    Calls Tryd.prog 46 #[.string s] w fun e w' => e = .returned (.string r) ∧ Below w.heap.size w w' := by
  unfold ref_Lower.f at h
  by_cases hs : s.size < 1000000000000
  case neg => rw [if_neg hs] at h; cases h
  rw [if_pos hs] at h
  obtain rfl := Option.some.inj h
  clear h
  have kc := fun w s => run_bytes_of_string (P := Tryd.prog) w 9 28 5 s Tryd.underlying9 Tryd.underlying28 Tryd.underlying5
  go_enter Tryd.func46, Tryd.ntmps46
  go_wp2
  generalize grownCap w s.size 0 5 = cap
  go_loopw [4] (fun v10 wr => ∃ k : Nat, v10 = .int .i64 k ∧ k ≤ s.size ∧ Aside0 (BRow wr w.heap.size 5 (low s.data.toList k) ∧ Below w.heap.size w wr)) (fun v10 _ => s.size - (intOf v10).toNat)
  case atStart =>
    refine ⟨0, rfl, Nat.zero_le _, ⟨?_, ?_⟩⟩
    · rw [low_zero]
      exact BRow.made w _ s cap
    · repeat (first | exact Below.refl _ _ | apply below_alloc | apply pw_below_drewN | apply below_drew1)
  case round =>
    obtain ⟨k, rfl, hk, HI⟩ := hrel
    by_cases hlt : k < s.size
    · have hlt2 : k < s.data.toList.length := by rw [size_list]; exact hlt
      have hlt3 : k < (low s.data.toList k).length := by rw [low_len]; exact hlt2
      obtain ⟨c, hc⟩ : ∃ c, c = s.data.toList[k] := ⟨_, rfl⟩
      have hx := HI.out.1.cell k hlt3
      rw [low_at _ k hlt2 hlt3, ← hc] at hx
      have hf := HI.out.1.frozen k hlt3
      have HC := Aside0.mk hc
      clear hc
      have hgs := HI.out.2.size
      rcases lower_lt c with ⟨h1, h2, h3⟩ | ⟨h1, h2⟩
      · have h1' : 65 ≤ (c.toNat : Int) := by have : (65 : UInt8).toNat ≤ c.toNat := h1; have e : (65 : UInt8).toNat = 65 := rfl; omega
        have h2' : (c.toNat : Int) ≤ 90 := by have : c.toNat ≤ (90 : UInt8).toNat := h2; have e : (90 : UInt8).toNat = 90 := rfl; omega
        clear h1 h2
        go_wp2
        go_roundw
        case rel =>
          refine ⟨k + 1, by go_num, by omega, ⟨?_, below_set HI.out.2 (Nat.le_refl _)⟩⟩
          have hs1 := low_succ s.data.toList k hlt2
          rw [← HC.out] at hs1
          rw [← hs1]
          exact HI.out.1.set k hlt3 (lowerB c) _ (by rw [h3]; congr 1 <;> omega)
        case measure => simp [intOf]; omega
      · have h1' : ¬ (65 ≤ (c.toNat : Int) ∧ (c.toNat : Int) ≤ 90) := fun h => h1 ⟨by show (65 : UInt8).toNat ≤ c.toNat; have e : (65 : UInt8).toNat = 65 := rfl; omega, by show c.toNat ≤ (90 : UInt8).toNat; have e : (90 : UInt8).toNat = 90 := rfl; omega⟩
        clear h1
        by_cases h65 : 65 ≤ (c.toNat : Int)
        · have h90 : ¬ (c.toNat : Int) ≤ 90 := fun h => h1' ⟨h65, h⟩
          clear h1'
          go_wp2
          go_roundw
          case rel => exact ⟨k + 1, by go_num, by omega, ⟨by rw [low_keep s.data.toList k hlt2 (by rw [← HC.out]; exact h2)]; exact HI.out.1, HI.out.2⟩⟩
          case measure => simp [intOf]; omega
        · clear h1'
          go_wp2
          go_roundw
          case rel => exact ⟨k + 1, by go_num, by omega, ⟨by rw [low_keep s.data.toList k hlt2 (by rw [← HC.out]; exact h2)]; exact HI.out.1, HI.out.2⟩⟩
          case measure => simp [intOf]; omega
    · obtain rfl : k = s.size := by omega
      have hcv := run_convert_bytes_back (P := Tryd.prog) wr 28 9 5 ⟨w.heap.size, 0, none⟩ cap (low s.data.toList s.size) Tryd.underlying28 Tryd.underlying5 Tryd.underlying9 (fun j hj => by
        rw [Addr.add_lit, Nat.zero_add]
        exact HI.out.1.cell j hj)
      rw [low_len, size_list] at hcv
      go_wp2
      go_ret
      refine ⟨?_, HI.out.2⟩
      have := low_all s.data.toList
      rw [size_list] at this
      rw [this]
      rfl
end Go.Proofs.YtljhfaneepehcaaDoor.Hand
