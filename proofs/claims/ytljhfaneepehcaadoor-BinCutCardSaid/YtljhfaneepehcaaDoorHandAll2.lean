/- addr.all at its two predicates; slices.IndexFunc and slices.ContainsFunc at the three of addr; label, Local, Domain, route. -/
import Derived.Test.YtljhfaneepehcaaDoorAddrEv
import Derived.WalkKit
import Derived.ProofKit
namespace Go.Proofs.YtljhfaneepehcaaDoor.Hand
open Go.RowKit Go.Proofs.YtljhfaneepehcaaDoorW.PrintWords Go.Proofs.YtljhfaneepehcaaDoorW.PrintLast Go.Proofs.YtljhfaneepehcaaDoorW.PrintMore Go.Proofs.YtljhfaneepehcaaDoor.Addr
set_option linter.unusedVariables false
set_option linter.unusedSimpArgs false

theorem take_all {p : UInt8 → Bool} (l : List UInt8) (k : Nat) (h : k < l.length) : (l.take (k + 1)).all p = ((l.take k).all p && p l[k]) := by
  rw [List.take_succ_eq_append_getElem h, List.all_append]
  simp
theorem take_any {α : Type} {p : α → Bool} (l : List α) (k : Nat) (h : k < l.length) : (l.take (k + 1)).any p = ((l.take k).any p || p l[k]) := by
  rw [List.take_succ_eq_append_getElem h, List.any_append]
  simp
theorem not_all {p : UInt8 → Bool} (l : List UInt8) (k : Nat) (h : k < l.length) (hp : p l[k] = false) : l.all p = false := by
  rw [List.all_eq_false]
  exact ⟨l[k], List.getElem_mem h, by rw [hp]; simp⟩
theorem is_any {α : Type} {p : α → Bool} (l : List α) (k : Nat) (h : k < l.length) (hp : p l[k] = true) : l.any p = true := by
  rw [List.any_eq_true]
  exact ⟨l[k], List.getElem_mem h, hp⟩
theorem get_list (s : ByteArray) (k : Nat) (h : k < s.size) (h2 : k < s.data.toList.length) : s.data.toList[k] = s[k] := by
  rw [Array.getElem_toList]
  rfl
def allP (p : UInt8 → Bool) (l : List UInt8) : Bool := !l.isEmpty && l.all p
theorem allP_false {p : UInt8 → Bool} {l : List UInt8} (h : l.all p = false) : allP p l = false := by unfold allP; rw [h, Bool.and_false]
theorem allP_true {p : UInt8 → Bool} {l : List UInt8} (h : l.all p = true) : allP p l = !l.isEmpty := by unfold allP; rw [h, Bool.and_true]
theorem empty_iff (s : ByteArray) : (s.data.toList.isEmpty = true) ↔ s.size = 0 := by
  rw [List.isEmpty_iff, ← List.length_eq_zero_iff, size_list]
theorem rd_at (l : List ByteArray) (i : Nat) (h : i < l.length) : rdOf ByteArray.empty l (i : Int) = l[i] := by unfold rdOf; simp [List.getD_eq_getElem?_getD, h]
theorem some_bne (a b : UInt8) : (some a != some b) = (a != b) := by rw [Bool.eq_iff_iff]; simp
theorem ne45 (x : UInt8) : ((x.toNat : Int) != 45) = (x != 45) := by
  have := all8 (p := fun x => ((x.toNat : Int) != 45) == (x != 45)) (by decide +kernel) x
  simpa only [beq_iff_eq] using this
theorem str_ne (s : ByteArray) : (s.data.toList != ([] : List UInt8)) = !s.data.toList.isEmpty := by cases s.data.toList <;> rfl

set_option maxHeartbeats 4000000 in
theorem all_atom (s : ByteArray) (w : World) (hs : s.size < 1000000000000) :
    Calls Tryd.prog 61 #[.string s, .func (.func 62) #[] #[]] w fun e w' => e = .returned (.bool (allP atomB s.data.toList)) ∧ Drawn0 w w' := by
  go_enter Tryd.func61, Tryd.ntmps61
  go_wp2
  go_loopw [8] (fun v8 wr => ∃ k : Nat, v8 = .int .i64 k ∧ k ≤ s.size ∧ Aside0 ((s.data.toList.take k).all atomB = true ∧ Drawn0 w wr)) (fun v8 _ => s.size - (intOf v8).toNat)
  case atStart => exact ⟨0, rfl, Nat.zero_le _, ⟨rfl, Drawn0.refl _⟩⟩
  case round =>
    obtain ⟨k, rfl, hk, HI⟩ := hrel
    by_cases hlt : k < s.size
    · have p1 : 0 ≤ (k : Int) := by omega
      have q1 : (k : Int) < (s.size : Int) := by omega
      have hlt2 : k < s.data.toList.length := by rw [size_list]; exact hlt
      have hg := Aside0.mk (get_list s k hlt hlt2)
      go_wp2_with fail
      refine (PA.addr_atom.calls (s[k].toNat : Int) (atomB s[k]) wr (atom_eq s[k])).mono ?_
      rintro e w' ⟨rfl, ⟨nd, rfl⟩⟩
      cases hb : atomB s[k] with
      | false =>
        go_wp2
        go_ret
        exact ⟨by rw [allP_false (not_all _ k hlt2 (by rw [hg.out]; exact hb))]; rfl, HI.out.2.step nd⟩
      | true =>
        go_wp2
        go_roundw
        case rel =>
          refine ⟨k + 1, by go_num, by omega, ⟨?_, HI.out.2.step nd⟩⟩
          rw [take_all _ k hlt2, HI.out.1, hg.out, hb]
          rfl
        case measure => simp [intOf]; omega
    · obtain rfl : k = s.size := by omega
      go_wp2
      go_ret
      refine ⟨?_, HI.out.2⟩
      have h1 := HI.out.1
      rw [List.take_of_length_le (by rw [size_list]; exact Nat.le_refl _)] at h1
      rw [allP_true h1]
      refine congrArg Ending.returned ?_
      show Value.bool _ = _
      refine congrArg Value.bool ?_
      rw [Lib.toList_data]

set_option maxHeartbeats 4000000 in
theorem label1_calls (c : UInt8) (w : World) :
    Calls Tryd.prog 69 #[.int .u8 (c.toNat : Int)] w fun e w' => e = .returned (.bool (innerB c)) ∧ Drawn0 w w' := by
  have HL := Aside0.mk (PA.addr_letter.calls (c.toNat : Int) (letterB c) w (letter_eq c))
  unfold innerB
  cases hb : letterB c with
  | true =>
    rw [hb] at HL
    go_enter Tryd.func69, Tryd.ntmps69
    go_wp2_with (go_at_call 67; refine HL.out.mono ?_; rintro e w' ⟨rfl, ⟨nd, rfl⟩⟩)
    go_ret
    exact ⟨rfl, ⟨nd, rfl⟩⟩
  | false =>
    rw [hb] at HL
    by_cases h45 : c = 45
    · subst h45
      go_enter Tryd.func69, Tryd.ntmps69
      go_wp2_with (go_at_call 67; refine HL.out.mono ?_; rintro e w' ⟨rfl, ⟨nd, rfl⟩⟩)
      go_ret
      exact ⟨rfl, ⟨nd, rfl⟩⟩
    · have hn : ¬ (c.toNat : Int) = 45 := fun h => h45 (UInt8.toNat_inj.1 (by have : (45 : UInt8).toNat = 45 := rfl; omega))
      go_enter Tryd.func69, Tryd.ntmps69
      go_wp2_with (go_at_call 67; refine HL.out.mono ?_; rintro e w' ⟨rfl, ⟨nd, rfl⟩⟩)
      go_ret
      refine ⟨?_, ⟨nd, rfl⟩⟩
      rw [Bool.false_or, show (c == 45) = false from by simpa using h45]
      simp [hn]
set_option maxHeartbeats 4000000 in
theorem all_inner (s : ByteArray) (w : World) (hs : s.size < 1000000000000) :
    Calls Tryd.prog 61 #[.string s, .func (.func 69) #[] #[]] w fun e w' => e = .returned (.bool (allP innerB s.data.toList)) ∧ Drawn0 w w' := by
  go_enter Tryd.func61, Tryd.ntmps61
  go_wp2
  go_loopw [8] (fun v8 wr => ∃ k : Nat, v8 = .int .i64 k ∧ k ≤ s.size ∧ Aside0 ((s.data.toList.take k).all innerB = true ∧ Drawn0 w wr)) (fun v8 _ => s.size - (intOf v8).toNat)
  case atStart => exact ⟨0, rfl, Nat.zero_le _, ⟨rfl, Drawn0.refl _⟩⟩
  case round =>
    obtain ⟨k, rfl, hk, HI⟩ := hrel
    by_cases hlt : k < s.size
    · have p1 : 0 ≤ (k : Int) := by omega
      have q1 : (k : Int) < (s.size : Int) := by omega
      have hlt2 : k < s.data.toList.length := by rw [size_list]; exact hlt
      have hg := Aside0.mk (get_list s k hlt hlt2)
      go_wp2_with fail
      refine (label1_calls s[k] wr).mono ?_
      rintro e w' ⟨rfl, ⟨nd, rfl⟩⟩
      cases hb : innerB s[k] with
      | false =>
        go_wp2
        go_ret
        exact ⟨by rw [allP_false (not_all _ k hlt2 (by rw [hg.out]; exact hb))]; rfl, HI.out.2.step nd⟩
      | true =>
        go_wp2
        go_roundw
        case rel =>
          refine ⟨k + 1, by go_num, by omega, ⟨?_, HI.out.2.step nd⟩⟩
          rw [take_all _ k hlt2, HI.out.1, hg.out, hb]
          rfl
        case measure => simp [intOf]; omega
    · obtain rfl : k = s.size := by omega
      go_wp2
      go_ret
      refine ⟨?_, HI.out.2⟩
      have h1 := HI.out.1
      rw [List.take_of_length_le (by rw [size_list]; exact Nat.le_refl _)] at h1
      rw [allP_true h1]
      refine congrArg Ending.returned ?_
      show Value.bool _ = _
      refine congrArg Value.bool ?_
      rw [Lib.toList_data]

set_option maxHeartbeats 4000000 in
theorem label_calls (s : ByteArray) (w : World) (hs : s.size < 1000000000000) :
    Calls Tryd.prog 65 #[.string s] w fun e w' => e = .returned (.bool (labelL s.data.toList)) ∧ Drawn0 w w' := by
  by_cases h63 : s.size ≤ 63
  · have h63' : s.data.toList.length ≤ 63 := by rw [size_list]; exact h63
    cases ha : allP innerB s.data.toList with
    | false =>
      have HA := Aside0.mk (all_inner s w hs)
      rw [ha] at HA
      go_enter Tryd.func65, Tryd.ntmps65
      go_wp2_with (go_at_call 61; refine HA.out.mono ?_; rintro e w' ⟨rfl, ⟨nd, rfl⟩⟩)
      go_ret
      refine ⟨?_, ⟨nd, rfl⟩⟩
      unfold labelL
      unfold allP at ha
      rw [Bool.and_assoc (decide _), ha]
      simp
    | true =>
      have hne : 0 < s.size := by
        unfold allP at ha
        rw [Bool.and_eq_true] at ha
        have : ¬ s.size = 0 := fun h => by
          rw [(empty_iff s).2 h] at ha
          exact absurd ha.1 (by simp)
        omega
      have HA := Aside0.mk (all_inner s w hs)
      rw [ha] at HA
      have hlt0 : 0 < s.data.toList.length := by rw [size_list]; exact hne
      have e0 : s.data.toList.head? = some s[0] := by rw [List.head?_eq_getElem?, List.getElem?_eq_getElem hlt0, get_list s 0 hne]
      have e1 : s.data.toList.getLast? = some s[s.size - 1] := by
        rw [List.getLast?_eq_getElem?, List.getElem?_eq_getElem (by omega)]
        rw [get_list s _ (by rw [size_list]; omega)]
        simp only [size_list]
      have hr : labelL s.data.toList = (s[0] != 45 && s[s.size - 1] != 45) := by
        unfold labelL
        unfold allP at ha
        rw [Bool.and_assoc (decide _), ha, decide_eq_true h63', e0, e1, some_bne, some_bne]
        simp
      rw [hr]
      generalize hx : s[0] = x
      generalize hy : s[s.size - 1] = y
      clear hr e0 e1 ha
      have n1 : (((s.size : Int) - 1).toNat) = s.size - 1 := by omega
      by_cases h45 : x = 45
      · have hx' : (x.toNat : Int) = 45 := by rw [h45]; rfl
        go_enter Tryd.func65, Tryd.ntmps65
        go_wp2_with (go_at_call 61; refine HA.out.mono ?_; rintro e w' ⟨rfl, ⟨nd, rfl⟩⟩)
        all_goals go_ret
        all_goals exact ⟨by rw [h45]; rfl, ⟨nd, rfl⟩⟩
      · have hx' : ¬ (x.toNat : Int) = 45 := fun h => h45 (UInt8.toNat_inj.1 (by have : (45 : UInt8).toNat = 45 := rfl; omega))
        go_enter Tryd.func65, Tryd.ntmps65
        go_wp2_with (go_at_call 61; refine HA.out.mono ?_; rintro e w' ⟨rfl, ⟨nd, rfl⟩⟩)
        all_goals go_ret
        all_goals refine ⟨?_, ⟨nd, rfl⟩⟩
        all_goals refine congrArg Ending.returned ?_
        all_goals show Value.bool _ = _
        all_goals rw [ne45, ne45]
  · go_enter Tryd.func65, Tryd.ntmps65
    go_wp2
    go_ret
    refine ⟨?_, Drawn0.refl _⟩
    have h1 : ¬ s.data.toList.length ≤ 63 := by rw [size_list]; exact h63
    unfold labelL
    rw [decide_eq_false h1]
    rfl

theorem any_parts (c : UInt8) (l : List UInt8) (p : List UInt8 → Bool) : ((parts c l).map mk).any (fun s => !p s.data.toList) = !(parts c l).all p := by
  rw [List.any_map]
  induction parts c l with
  | nil => rfl
  | cons q qs ih => rw [List.any_cons, List.all_cons, ih]; simp [list_mk]
theorem parts_len (c : UInt8) (l : List UInt8) (q : List UInt8) (h : q ∈ parts c l) : q.length ≤ l.length := by
  induction l generalizing q with
  | nil =>
    rw [parts, List.mem_singleton] at h
    rw [h]
    exact Nat.le_refl _
  | cons x l ih =>
    obtain ⟨p, ps, h1, h2⟩ := parts_cons c x l
    rw [h2] at h
    rw [List.length_cons]
    split at h
    · rcases List.mem_cons.1 h with rfl | h
      · exact Nat.zero_le _
      · have := ih q (by rw [h1]; exact h)
        omega
    · rcases List.mem_cons.1 h with rfl | h
      · have := ih p (by rw [h1]; exact List.mem_cons_self)
        rw [List.length_cons]
        omega
      · have := ih q (by rw [h1]; exact List.mem_cons_of_mem _ h)
        omega

set_option maxHeartbeats 4000000 in
theorem local1_calls (s : ByteArray) (w : World) (hs : s.size < 1000000000000) :
    Calls Tryd.prog 60 #[.string s] w fun e w' => e = .returned (.bool (!localP s.data.toList)) ∧ Drawn0 w w' := by
  go_enter Tryd.func60, Tryd.ntmps60
  go_wp2_with fail
  refine (all_atom s w hs).mono ?_
  rintro e w1 ⟨rfl, hd⟩
  have HD := Aside0.mk hd
  clear hd
  go_wp2
  go_ret
  exact ⟨rfl, HD.out⟩

set_option maxHeartbeats 4000000 in
theorem index_local (A : Option Addr) (c : Nat) (l : List ByteArray) (w : World) (hr : Kd.C Kd.string w A l.length l) (hc : l.length ≤ c) (hl : ∀ s ∈ l, s.size < 1000000000000) (hll : l.length < 1000000000001) :
    Calls Tryd.prog 42 #[.slice A l.length c, .func (.func 60) #[] #[]] w fun e w' => ∃ i : Int, e = .returned (.int .i64 i) ∧ decide (i ≥ 0) = l.any (fun s : ByteArray => !localP s.data.toList) ∧ Below w.heap.size w w' := by
  have HR := Aside0.mk hr
  have HLS := Aside0.mk hl
  clear hr hl
  go_enter Tryd.func42, Tryd.ntmps42
  go_wp2
  go_loopw [8] (fun v8 wr => ∃ k : Nat, v8 = .int .i64 k ∧ k ≤ l.length ∧ Aside0 ((l.take k).any (fun s : ByteArray => !localP s.data.toList) = false ∧ Below w.heap.size w wr)) (fun v8 _ => l.length - (intOf v8).toNat)
  case atStart => exact ⟨0, rfl, Nat.zero_le _, ⟨rfl, Below.refl _ _⟩⟩
  case round =>
    obtain ⟨k, rfl, hk, HI⟩ := hrel
    by_cases hlt : k < l.length
    · obtain ⟨ad, rfl, hx⟩ := Kd.at_string HR.out (k : Int) (by omega) (by omega)
      rw [rd_at l k hlt, Int.toNat_natCast] at hx
      have hxr : wr.cell? (ad.add k) = some (.string l[k]) := pw_cell_below HI.out.2 hx
      clear hx
      obtain ⟨s, hs⟩ : ∃ s, s = l[k] := ⟨_, rfl⟩
      rw [← hs] at hxr
      have hs2 : s.size < 1000000000000 := by rw [hs]; exact HLS.out _ (List.getElem_mem hlt)
      have HS := Aside0.mk hs
      have HS2 := Aside0.mk hs2
      clear hs hs2
      go_wp2_with fail
      refine (((local1_calls s wr HS2.out).mono (fun e w' h => (⟨h.1, h.2.below⟩ : e = .returned (.bool ((fun s : ByteArray => !localP s.data.toList) s)) ∧ Below wr.heap.size wr w')))).mono ?_
      rintro e w1 ⟨rfl, hb1⟩
      have HB := Aside0.mk (HI.out.2.trans (hb1.mono HI.out.2.size))
      clear hb1
      cases hb : (fun s : ByteArray => !localP s.data.toList) s with
      | true =>
        go_wp2
        go_ret
        exact ⟨_, rfl, by rw [is_any l k hlt (by rw [← HS.out]; exact hb)]; simp, HB.out⟩
      | false =>
        go_wp2
        go_roundw
        case rel =>
          refine ⟨k + 1, by go_num, by omega, ⟨?_, HB.out⟩⟩
          rw [take_any _ k hlt, HI.out.1, ← HS.out, hb]
          rfl
        case measure => simp [intOf]; omega
    · obtain rfl : k = l.length := by omega
      go_wp2
      go_ret
      refine ⟨_, rfl, ?_, HI.out.2⟩
      have h1 := HI.out.1
      rw [List.take_length] at h1
      rw [h1]
      rfl

set_option maxHeartbeats 4000000 in
theorem contains_local (A : Option Addr) (c : Nat) (l : List ByteArray) (w : World) (hr : Kd.C Kd.string w A l.length l) (hc : l.length ≤ c) (hl : ∀ s ∈ l, s.size < 1000000000000) (hll : l.length < 1000000000001) :
    Calls Tryd.prog 33 #[.slice A l.length c, .func (.func 60) #[] #[]] w fun e w' => e = .returned (.bool (l.any (fun s : ByteArray => !localP s.data.toList))) ∧ Below w.heap.size w w' := by
  have HI := Aside0.mk (index_local A c l w hr hc hl hll)
  clear hr hl
  go_enter Tryd.func33, Tryd.ntmps33
  go_wp2_with fail
  refine HI.out.mono ?_
  rintro e w1 ⟨i, rfl, hi, hb⟩
  have HB := Aside0.mk hb
  clear hb HI
  go_wp2
  go_ret
  exact ⟨by rw [← hi]; rfl, HB.out⟩

set_option maxHeartbeats 4000000 in
theorem domain1_calls (s : ByteArray) (w : World) (hs : s.size < 1000000000000) :
    Calls Tryd.prog 64 #[.string s] w fun e w' => e = .returned (.bool (!labelL s.data.toList)) ∧ Drawn0 w w' := by
  go_enter Tryd.func64, Tryd.ntmps64
  go_wp2_with fail
  refine (label_calls s w hs).mono ?_
  rintro e w1 ⟨rfl, hd⟩
  have HD := Aside0.mk hd
  clear hd
  go_wp2
  go_ret
  exact ⟨rfl, HD.out⟩

set_option maxHeartbeats 4000000 in
theorem index_domain (A : Option Addr) (c : Nat) (l : List ByteArray) (w : World) (hr : Kd.C Kd.string w A l.length l) (hc : l.length ≤ c) (hl : ∀ s ∈ l, s.size < 1000000000000) (hll : l.length < 1000000000001) :
    Calls Tryd.prog 42 #[.slice A l.length c, .func (.func 64) #[] #[]] w fun e w' => ∃ i : Int, e = .returned (.int .i64 i) ∧ decide (i ≥ 0) = l.any (fun s : ByteArray => !labelL s.data.toList) ∧ Below w.heap.size w w' := by
  have HR := Aside0.mk hr
  have HLS := Aside0.mk hl
  clear hr hl
  go_enter Tryd.func42, Tryd.ntmps42
  go_wp2
  go_loopw [8] (fun v8 wr => ∃ k : Nat, v8 = .int .i64 k ∧ k ≤ l.length ∧ Aside0 ((l.take k).any (fun s : ByteArray => !labelL s.data.toList) = false ∧ Below w.heap.size w wr)) (fun v8 _ => l.length - (intOf v8).toNat)
  case atStart => exact ⟨0, rfl, Nat.zero_le _, ⟨rfl, Below.refl _ _⟩⟩
  case round =>
    obtain ⟨k, rfl, hk, HI⟩ := hrel
    by_cases hlt : k < l.length
    · obtain ⟨ad, rfl, hx⟩ := Kd.at_string HR.out (k : Int) (by omega) (by omega)
      rw [rd_at l k hlt, Int.toNat_natCast] at hx
      have hxr : wr.cell? (ad.add k) = some (.string l[k]) := pw_cell_below HI.out.2 hx
      clear hx
      obtain ⟨s, hs⟩ : ∃ s, s = l[k] := ⟨_, rfl⟩
      rw [← hs] at hxr
      have hs2 : s.size < 1000000000000 := by rw [hs]; exact HLS.out _ (List.getElem_mem hlt)
      have HS := Aside0.mk hs
      have HS2 := Aside0.mk hs2
      clear hs hs2
      go_wp2_with fail
      refine (((domain1_calls s wr HS2.out).mono (fun e w' h => (⟨h.1, h.2.below⟩ : e = .returned (.bool ((fun s : ByteArray => !labelL s.data.toList) s)) ∧ Below wr.heap.size wr w')))).mono ?_
      rintro e w1 ⟨rfl, hb1⟩
      have HB := Aside0.mk (HI.out.2.trans (hb1.mono HI.out.2.size))
      clear hb1
      cases hb : (fun s : ByteArray => !labelL s.data.toList) s with
      | true =>
        go_wp2
        go_ret
        exact ⟨_, rfl, by rw [is_any l k hlt (by rw [← HS.out]; exact hb)]; simp, HB.out⟩
      | false =>
        go_wp2
        go_roundw
        case rel =>
          refine ⟨k + 1, by go_num, by omega, ⟨?_, HB.out⟩⟩
          rw [take_any _ k hlt, HI.out.1, ← HS.out, hb]
          rfl
        case measure => simp [intOf]; omega
    · obtain rfl : k = l.length := by omega
      go_wp2
      go_ret
      refine ⟨_, rfl, ?_, HI.out.2⟩
      have h1 := HI.out.1
      rw [List.take_length] at h1
      rw [h1]
      rfl

set_option maxHeartbeats 4000000 in
theorem contains_domain (A : Option Addr) (c : Nat) (l : List ByteArray) (w : World) (hr : Kd.C Kd.string w A l.length l) (hc : l.length ≤ c) (hl : ∀ s ∈ l, s.size < 1000000000000) (hll : l.length < 1000000000001) :
    Calls Tryd.prog 33 #[.slice A l.length c, .func (.func 64) #[] #[]] w fun e w' => e = .returned (.bool (l.any (fun s : ByteArray => !labelL s.data.toList))) ∧ Below w.heap.size w w' := by
  have HI := Aside0.mk (index_domain A c l w hr hc hl hll)
  clear hr hl
  go_enter Tryd.func33, Tryd.ntmps33
  go_wp2_with fail
  refine HI.out.mono ?_
  rintro e w1 ⟨i, rfl, hi, hb⟩
  have HB := Aside0.mk hb
  clear hb HI
  go_wp2
  go_ret
  exact ⟨by rw [← hi]; rfl, HB.out⟩

def addr_Local.f (s : ByteArray) : Option Bool := some (localL s.data.toList)
set_option maxHeartbeats 4000000 in
theorem addr_Local.calls (s : ByteArray) (r : Bool) (w : World) (h : addr_Local.f s = some r) :
    Calls Tryd.prog 54 #[.string s] w fun e w' => e = .returned (.bool r) ∧ Below w.heap.size w w' := by
  obtain rfl : localL s.data.toList = r := Option.some.inj h
  clear h
  by_cases hs : s.size ≤ 64
  · obtain ⟨K, hK⟩ := split_ev s 46 (by omega)
    have HK := Aside0.mk (hK K (Nat.le_refl _))
    have hsm : ∀ p ∈ (parts 46 s.data.toList).map mk, p.size < 1000000000000 := by
      intro p hp
      obtain ⟨q, hq, rfl⟩ := List.mem_map.1 hp
      have := parts_len 46 _ q hq
      rw [mk_size]
      rw [size_list] at this
      omega
    have hln : ((parts 46 s.data.toList).map mk).length < 1000000000000 := by
      have := List.count_le_length (a := 46) (l := s.data.toList)
      rw [List.length_map, parts_count]
      rw [size_list] at this
      omega
    obtain ⟨L, hL⟩ : ∃ L, L = (parts 46 s.data.toList).map mk := ⟨_, rfl⟩
    rw [← hL] at hsm hln HK
    have HSM := Aside0.mk hsm
    have HLN := Aside0.mk hln
    have HL := Aside0.mk hL
    clear hsm hK hln hL
    go_enter Tryd.func54, Tryd.ntmps54
    go_wp2_with fail
    refine (PA.strings_Split.calls K s _ _ _ HK.out).mono ?_
    rintro e w1 ⟨v, rfl, hR, hb⟩
    obtain ⟨A, c, rfl, hc, hC⟩ := Kd.R_reads hR
    have HC := Aside0.mk hC
    have HB := Aside0.mk hb
    have HCC := Aside0.mk hc
    clear hR hC hb hc
    go_wp2_with fail
    refine (contains_local A c _ w1 HC.out HCC.out HSM.out (by have := HLN.out; omega)).mono ?_
    rintro e w2 ⟨rfl, hb2⟩
    have HB2 := Aside0.mk (HB.out.trans (hb2.mono HB.out.size))
    clear hb2
    go_wp2
    go_ret
    refine ⟨?_, HB2.out⟩
    have h1 : s.data.toList.length ≤ 64 := by rw [size_list]; exact hs
    rw [HL.out, any_parts]
    unfold localL
    rw [decide_eq_true h1]
    simp
  · go_enter Tryd.func54, Tryd.ntmps54
    go_wp2
    go_ret
    refine ⟨?_, Below.refl _ _⟩
    have h1 : ¬ s.data.toList.length ≤ 64 := by rw [size_list]; exact hs
    unfold localL
    rw [decide_eq_false h1]
    rfl

def addr_Domain.f (s : ByteArray) : Option Bool := some (domainL s.data.toList)
set_option maxHeartbeats 4000000 in
theorem addr_Domain.calls (s : ByteArray) (r : Bool) (w : World) (h : addr_Domain.f s = some r) :
    Calls Tryd.prog 55 #[.string s] w fun e w' => e = .returned (.bool r) ∧ Below w.heap.size w w' := by
  obtain rfl : domainL s.data.toList = r := Option.some.inj h
  clear h
  by_cases hs : s.size ≤ 255
  · obtain ⟨K, hK⟩ := split_ev s 46 (by omega)
    have HK := Aside0.mk (hK K (Nat.le_refl _))
    have hsm : ∀ p ∈ (parts 46 s.data.toList).map mk, p.size < 1000000000000 := by
      intro p hp
      obtain ⟨q, hq, rfl⟩ := List.mem_map.1 hp
      have := parts_len 46 _ q hq
      rw [mk_size]
      rw [size_list] at this
      omega
    have hln : ((parts 46 s.data.toList).map mk).length < 1000000000000 := by
      have := List.count_le_length (a := 46) (l := s.data.toList)
      rw [List.length_map, parts_count]
      rw [size_list] at this
      omega
    obtain ⟨L, hL⟩ : ∃ L, L = (parts 46 s.data.toList).map mk := ⟨_, rfl⟩
    rw [← hL] at hsm hln HK
    have HSM := Aside0.mk hsm
    have HLN := Aside0.mk hln
    have HL := Aside0.mk hL
    clear hsm hK hln hL
    go_enter Tryd.func55, Tryd.ntmps55
    go_wp2_with fail
    refine (PA.strings_Split.calls K s _ _ _ HK.out).mono ?_
    rintro e w1 ⟨v, rfl, hR, hb⟩
    obtain ⟨A, c, rfl, hc, hC⟩ := Kd.R_reads hR
    have HC := Aside0.mk hC
    have HB := Aside0.mk hb
    have HCC := Aside0.mk hc
    clear hR hC hb hc
    go_wp2_with fail
    refine (contains_domain A c _ w1 HC.out HCC.out HSM.out (by have := HLN.out; omega)).mono ?_
    rintro e w2 ⟨rfl, hb2⟩
    have HB2 := Aside0.mk (HB.out.trans (hb2.mono HB.out.size))
    clear hb2
    go_wp2
    go_ret
    refine ⟨?_, HB2.out⟩
    have h1 : s.data.toList.length ≤ 255 := by rw [size_list]; exact hs
    rw [HL.out, any_parts]
    unfold domainL
    rw [decide_eq_true h1]
    simp
  · go_enter Tryd.func55, Tryd.ntmps55
    go_wp2
    go_ret
    refine ⟨?_, Below.refl _ _⟩
    have h1 : ¬ s.data.toList.length ≤ 255 := by rw [size_list]; exact hs
    unfold domainL
    rw [decide_eq_false h1]
    rfl

end Go.Proofs.YtljhfaneepehcaaDoor.Hand
