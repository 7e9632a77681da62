/- slices.IndexFunc and slices.ContainsFunc with the predicates of env.Good (written by wip/tools/gen_env.py). -/
import Derived.Test.YtljhfaneepehcaaDoorPBx1
import Derived.Test.YtljhfaneepehcaaDoorAddrEv
import Derived.WalkKit
import Derived.ProofKit
namespace Go.Proofs.YtljhfaneepehcaaDoor.Hand
open Go.RowKit Go.Proofs.YtljhfaneepehcaaDoorW.PrintWords Go.Proofs.YtljhfaneepehcaaDoorW.PrintLast Go.Proofs.YtljhfaneepehcaaDoorW.PrintMore Go.Proofs.YtljhfaneepehcaaDoor.Addr
set_option linter.unusedVariables false
set_option linter.unusedSimpArgs false
/-- The place of the first that p is true of; -1: none. -/
def idxO {α : Type} (p : α → Option Bool) : Nat → List α → Option Int
  | _, [] => some (-1)
  | i, x :: l => (p x).bind fun b => if b = true then some (i : Int) else idxO p (i + 1) l
def oddP (n : Int) : Option Bool := some (decide (n < 0) || decide (n > 2))
def lateP (n : Int) : Option Bool := some (!(decide (n ≥ 0) && decide (n ≤ 1099511627776)))
def strayP (s : ByteArray) : Option Bool := (PB.env_mailbox.f s).map (! ·)
set_option maxHeartbeats 4000000 in
theorem odd_calls (n : Int) (r : Bool) (w : World) (h : oddP n = some r) : Calls Tryd.prog 28 #[.int .i64 n] w fun e w' => e = .returned (.bool r) ∧ Below w.heap.size w w' := by
  have hr := Option.some.inj h
  have HR := Aside0.mk hr
  clear h hr
  go_enter Tryd.func28, Tryd.ntmps28
  by_cases h1 : n < 0
  · have h1' : decide (n < 0) = true := decide_eq_true h1
    have HE := Aside0.mk h1
    clear h1
    go_wp2
    go_ret
    refine ⟨?_, Below.refl _ _⟩
    rw [← HR.out, decide_eq_true HE.out]
    rfl
  · have h1' : decide (n < 0) = false := decide_eq_false h1
    have HE := Aside0.mk h1
    clear h1
    go_wp2
    go_ret
    refine ⟨?_, Below.refl _ _⟩
    have h0 := HE.out
    rw [← HR.out, decide_eq_false (show ¬ n < 0 by omega), Bool.false_or]
    rfl
set_option maxHeartbeats 4000000 in
theorem late_calls (n : Int) (r : Bool) (w : World) (h : lateP n = some r) : Calls Tryd.prog 30 #[.int .i64 n] w fun e w' => e = .returned (.bool r) ∧ Below w.heap.size w w' := by
  have hr := Option.some.inj h
  have HR := Aside0.mk hr
  clear h hr
  have HT := Aside0.mk (fun W => PB.env_time.calls n (decide (n ≥ 0) && decide (n ≤ 1099511627776)) W (by unfold PB.env_time.f; by_cases h : n ≥ 0; (· rw [if_pos h, decide_eq_true h, Bool.true_and]); (· rw [if_neg h, decide_eq_false h, Bool.false_and])))
  go_enter Tryd.func30, Tryd.ntmps30
  go_wp2_with fail
  refine (HT.out _).mono ?_
  rintro e w1 ⟨rfl, hd1⟩
  have HB := Aside0.mk hd1.below
  clear hd1
  go_wp2
  go_ret
  exact ⟨by rw [← HR.out, Bool.not_and]; rfl, HB.out⟩
set_option maxHeartbeats 4000000 in
theorem stray_calls (s : ByteArray) (r : Bool) (w : World) (h : strayP s = some r) : Calls Tryd.prog 34 #[.string s] w fun e w' => e = .returned (.bool r) ∧ Below w.heap.size w w' := by
  obtain ⟨b, hb, hr⟩ := Option.map_eq_some_iff.1 h
  have HR := Aside0.mk hr
  have HT := Aside0.mk (fun W => PB.env_mailbox.calls s b W hb)
  clear h hr hb
  go_enter Tryd.func34, Tryd.ntmps34
  go_wp2_with fail
  refine (HT.out _).mono ?_
  rintro e w1 ⟨rfl, hd1⟩
  have HB := Aside0.mk hd1
  clear hd1
  go_wp2
  go_ret
  exact ⟨by rw [← HR.out]; rfl, HB.out⟩
set_option maxHeartbeats 4000000 in
theorem index_odd (A : Option Addr) (c : Nat) (l : List Int) (r : Int) (w : World) (hr : Kd.C (Kd.int .i64) w A l.length l) (hc : l.length ≤ c) (hll : l.length < 1000000000001) (h : idxO oddP 0 l = some r) :
    Calls Tryd.prog 40 #[.slice A l.length c, .func (.func 28) #[] #[]] w fun e w' => e = .returned (.int .i64 r) ∧ Below w.heap.size w w' := by
  have HR := Aside0.mk hr
  have HH := Aside0.mk h
  clear hr h
  go_enter Tryd.func40, Tryd.ntmps40
  go_wp2
  go_loopw [8] (fun v8 wr => ∃ k : Nat, v8 = .int .i64 k ∧ k ≤ l.length ∧ Aside0 (idxO oddP k (l.drop k) = some r ∧ Below w.heap.size w wr)) (fun v8 _ => l.length - (intOf v8).toNat)
  case atStart => exact ⟨0, rfl, Nat.zero_le _, ⟨HH.out, Below.refl _ _⟩⟩
  case round =>
    obtain ⟨k, rfl, hk, HI⟩ := hrel
    by_cases hlt : k < l.length
    · obtain ⟨ad, rfl, hx⟩ := Kd.at_int HR.out (k : Int) (by omega) (by omega)
      rw [Int.toNat_natCast] at hx
      have hxr := pw_cell_below HI.out.2 hx
      have hrd : rd l (k : Int) = l[k] := by unfold rd; simp [List.getD_eq_getElem?_getD, hlt]
      rw [hrd] at hxr
      clear hx hrd
      have h1 := HI.out.1
      rw [List.drop_eq_getElem_cons hlt, idxO] at h1
      obtain ⟨b, hb, h2⟩ := Option.bind_eq_some_iff.1 h1
      have H2 := Aside0.mk h2
      have HC := Aside0.mk (odd_calls l[k] b wr hb)
      obtain ⟨y, hy⟩ : ∃ y, y = l[k] := ⟨_, rfl⟩
      rw [← hy] at hxr HC
      clear h1 hb h2 hy
      go_wp2_with fail
      refine HC.out.mono ?_
      rintro e w1 ⟨rfl, hb1⟩
      have HB := Aside0.mk (HI.out.2.trans (hb1.mono HI.out.2.size))
      clear hb1
      cases b with
      | true =>
        go_wp2
        go_ret
        refine ⟨?_, HB.out⟩
        have : some (k : Int) = some r := by simpa using H2.out
        rw [← Option.some.inj this]
        rfl
      | false =>
        go_wp2
        go_roundw
        case rel =>
          refine ⟨k + 1, by go_num, by omega, ⟨?_, HB.out⟩⟩
          simpa using H2.out
        case measure => simp [intOf]; omega
    · obtain rfl : k = l.length := by omega
      go_wp2
      go_ret
      refine ⟨?_, HI.out.2⟩
      have h1 := HI.out.1
      rw [List.drop_length, idxO] at h1
      rw [← Option.some.inj h1]
      rfl
set_option maxHeartbeats 4000000 in
theorem contains_odd (A : Option Addr) (c : Nat) (l : List Int) (r : Int) (w : World) (hr : Kd.C (Kd.int .i64) w A l.length l) (hc : l.length ≤ c) (hll : l.length < 1000000000001) (h : idxO oddP 0 l = some r) :
    Calls Tryd.prog 29 #[.slice A l.length c, .func (.func 28) #[] #[]] w fun e w' => e = .returned (.bool (decide (r ≥ 0))) ∧ Below w.heap.size w w' := by
  have HC := Aside0.mk (index_odd A c l r w hr hc hll h)
  clear hr h
  go_enter Tryd.func29, Tryd.ntmps29
  go_wp2_with fail
  refine HC.out.mono ?_
  rintro e w1 ⟨rfl, hb1⟩
  have HB := Aside0.mk hb1
  clear hb1
  go_wp2
  go_ret
  exact ⟨rfl, HB.out⟩
set_option maxHeartbeats 4000000 in
theorem index_late (A : Option Addr) (c : Nat) (l : List Int) (r : Int) (w : World) (hr : Kd.C (Kd.int .i64) w A l.length l) (hc : l.length ≤ c) (hll : l.length < 1000000000001) (h : idxO lateP 0 l = some r) :
    Calls Tryd.prog 40 #[.slice A l.length c, .func (.func 30) #[] #[]] w fun e w' => e = .returned (.int .i64 r) ∧ Below w.heap.size w w' := by
  have HR := Aside0.mk hr
  have HH := Aside0.mk h
  clear hr h
  go_enter Tryd.func40, Tryd.ntmps40
  go_wp2
  go_loopw [8] (fun v8 wr => ∃ k : Nat, v8 = .int .i64 k ∧ k ≤ l.length ∧ Aside0 (idxO lateP k (l.drop k) = some r ∧ Below w.heap.size w wr)) (fun v8 _ => l.length - (intOf v8).toNat)
  case atStart => exact ⟨0, rfl, Nat.zero_le _, ⟨HH.out, Below.refl _ _⟩⟩
  case round =>
    obtain ⟨k, rfl, hk, HI⟩ := hrel
    by_cases hlt : k < l.length
    · obtain ⟨ad, rfl, hx⟩ := Kd.at_int HR.out (k : Int) (by omega) (by omega)
      rw [Int.toNat_natCast] at hx
      have hxr := pw_cell_below HI.out.2 hx
      have hrd : rd l (k : Int) = l[k] := by unfold rd; simp [List.getD_eq_getElem?_getD, hlt]
      rw [hrd] at hxr
      clear hx hrd
      have h1 := HI.out.1
      rw [List.drop_eq_getElem_cons hlt, idxO] at h1
      obtain ⟨b, hb, h2⟩ := Option.bind_eq_some_iff.1 h1
      have H2 := Aside0.mk h2
      have HC := Aside0.mk (late_calls l[k] b wr hb)
      obtain ⟨y, hy⟩ : ∃ y, y = l[k] := ⟨_, rfl⟩
      rw [← hy] at hxr HC
      clear h1 hb h2 hy
      go_wp2_with fail
      refine HC.out.mono ?_
      rintro e w1 ⟨rfl, hb1⟩
      have HB := Aside0.mk (HI.out.2.trans (hb1.mono HI.out.2.size))
      clear hb1
      cases b with
      | true =>
        go_wp2
        go_ret
        refine ⟨?_, HB.out⟩
        have : some (k : Int) = some r := by simpa using H2.out
        rw [← Option.some.inj this]
        rfl
      | false =>
        go_wp2
        go_roundw
        case rel =>
          refine ⟨k + 1, by go_num, by omega, ⟨?_, HB.out⟩⟩
          simpa using H2.out
        case measure => simp [intOf]; omega
    · obtain rfl : k = l.length := by omega
      go_wp2
      go_ret
      refine ⟨?_, HI.out.2⟩
      have h1 := HI.out.1
      rw [List.drop_length, idxO] at h1
      rw [← Option.some.inj h1]
      rfl
set_option maxHeartbeats 4000000 in
theorem contains_late (A : Option Addr) (c : Nat) (l : List Int) (r : Int) (w : World) (hr : Kd.C (Kd.int .i64) w A l.length l) (hc : l.length ≤ c) (hll : l.length < 1000000000001) (h : idxO lateP 0 l = some r) :
    Calls Tryd.prog 29 #[.slice A l.length c, .func (.func 30) #[] #[]] w fun e w' => e = .returned (.bool (decide (r ≥ 0))) ∧ Below w.heap.size w w' := by
  have HC := Aside0.mk (index_late A c l r w hr hc hll h)
  clear hr h
  go_enter Tryd.func29, Tryd.ntmps29
  go_wp2_with fail
  refine HC.out.mono ?_
  rintro e w1 ⟨rfl, hb1⟩
  have HB := Aside0.mk hb1
  clear hb1
  go_wp2
  go_ret
  exact ⟨rfl, HB.out⟩
set_option maxHeartbeats 4000000 in
theorem index_stray (A : Option Addr) (c : Nat) (l : List ByteArray) (r : Int) (w : World) (hr : Kd.C Kd.string w A l.length l) (hc : l.length ≤ c) (hll : l.length < 1000000000001) (h : idxO strayP 0 l = some r) :
    Calls Tryd.prog 42 #[.slice A l.length c, .func (.func 34) #[] #[]] w fun e w' => e = .returned (.int .i64 r) ∧ Below w.heap.size w w' := by
  have HR := Aside0.mk hr
  have HH := Aside0.mk h
  clear hr h
  go_enter Tryd.func42, Tryd.ntmps42
  go_wp2
  go_loopw [8] (fun v8 wr => ∃ k : Nat, v8 = .int .i64 k ∧ k ≤ l.length ∧ Aside0 (idxO strayP k (l.drop k) = some r ∧ Below w.heap.size w wr)) (fun v8 _ => l.length - (intOf v8).toNat)
  case atStart => exact ⟨0, rfl, Nat.zero_le _, ⟨HH.out, Below.refl _ _⟩⟩
  case round =>
    obtain ⟨k, rfl, hk, HI⟩ := hrel
    by_cases hlt : k < l.length
    · obtain ⟨ad, rfl, hx⟩ := Kd.at_string HR.out (k : Int) (by omega) (by omega)
      rw [Int.toNat_natCast] at hx
      have hxr := pw_cell_below HI.out.2 hx
      have hrd : rdOf ByteArray.empty l (k : Int) = l[k] := by unfold rdOf; simp [List.getD_eq_getElem?_getD, hlt]
      rw [hrd] at hxr
      clear hx hrd
      have h1 := HI.out.1
      rw [List.drop_eq_getElem_cons hlt, idxO] at h1
      obtain ⟨b, hb, h2⟩ := Option.bind_eq_some_iff.1 h1
      have H2 := Aside0.mk h2
      have HC := Aside0.mk (stray_calls l[k] b wr hb)
      obtain ⟨y, hy⟩ : ∃ y, y = l[k] := ⟨_, rfl⟩
      rw [← hy] at hxr HC
      clear h1 hb h2 hy
      go_wp2_with fail
      refine HC.out.mono ?_
      rintro e w1 ⟨rfl, hb1⟩
      have HB := Aside0.mk (HI.out.2.trans (hb1.mono HI.out.2.size))
      clear hb1
      cases b with
      | true =>
        go_wp2
        go_ret
        refine ⟨?_, HB.out⟩
        have : some (k : Int) = some r := by simpa using H2.out
        rw [← Option.some.inj this]
        rfl
      | false =>
        go_wp2
        go_roundw
        case rel =>
          refine ⟨k + 1, by go_num, by omega, ⟨?_, HB.out⟩⟩
          simpa using H2.out
        case measure => simp [intOf]; omega
    · obtain rfl : k = l.length := by omega
      go_wp2
      go_ret
      refine ⟨?_, HI.out.2⟩
      have h1 := HI.out.1
      rw [List.drop_length, idxO] at h1
      rw [← Option.some.inj h1]
      rfl
set_option maxHeartbeats 4000000 in
theorem contains_stray (A : Option Addr) (c : Nat) (l : List ByteArray) (r : Int) (w : World) (hr : Kd.C Kd.string w A l.length l) (hc : l.length ≤ c) (hll : l.length < 1000000000001) (h : idxO strayP 0 l = some r) :
    Calls Tryd.prog 33 #[.slice A l.length c, .func (.func 34) #[] #[]] w fun e w' => e = .returned (.bool (decide (r ≥ 0))) ∧ Below w.heap.size w w' := by
  have HC := Aside0.mk (index_stray A c l r w hr hc hll h)
  clear hr h
  go_enter Tryd.func33, Tryd.ntmps33
  go_wp2_with fail
  refine HC.out.mono ?_
  rintro e w1 ⟨rfl, hb1⟩
  have HB := Aside0.mk hb1
  clear hb1
  go_wp2
  go_ret
  exact ⟨rfl, HB.out⟩
end Go.Proofs.YtljhfaneepehcaaDoor.Hand
