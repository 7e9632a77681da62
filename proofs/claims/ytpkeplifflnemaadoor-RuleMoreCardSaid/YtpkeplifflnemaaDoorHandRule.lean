/- slices.IndexFunc, slices.ContainsFunc over bans with rule.met's closure; rule.met. -/
import Derived.Test.YtpkeplifflnemaaDoorPBx1
import Derived.Test.YtpkeplifflnemaaDoorAddrEv
import Derived.WalkKit
import Derived.ProofKit
namespace Go.Proofs.YtpkeplifflnemaaDoor.Hand
open Go.RowKit Go.Proofs.YtpkeplifflnemaaDoorW.PrintWords Go.Proofs.YtpkeplifflnemaaDoorW.PrintLast Go.Proofs.YtpkeplifflnemaaDoorW.PrintMore Go.Proofs.YtpkeplifflnemaaDoor.Addr Go.Proofs.YtpkeplifflnemaaDoor.PB
set_option linter.unusedVariables false
set_option linter.unusedSimpArgs false

theorem str_eqb (a b : ByteArray) : (a.toList == b.toList) = decide (a = b) := by
  rw [Bool.eq_iff_iff, beq_iff_eq, decide_eq_true_iff, Lib.toList_data, Lib.toList_data]
  exact ⟨fun h => ByteArray.ext (Array.toList_inj.1 h), fun h => by rw [h]⟩
/-- Does a ban meet it? -/
def meets (f : Bool) (c d : ByteArray) (b : S34) : Bool := (b.f0 == f) && (decide (b.f1 = c) || decide (b.f1 = d))
set_option maxHeartbeats 4000000 in
theorem met1_calls (b : S34) (g1 g2 g3 : Addr) (f : Bool) (c d : ByteArray) (w : World) (h1 : w.cell? g1 = some (.bool f)) (h2 : w.cell? g2 = some (.string c)) (h3 : w.cell? g3 = some (.string d)) :
    Calls Tryd.prog 27 #[.agg #[.bool b.f0, .string b.f1], .pointer (some g1), .pointer (some g2), .pointer (some g3)] w fun e w' => e = .returned (.bool (meets f c d b)) ∧ Below w.heap.size w w' := by
  have hg1 := World.block_lt_of_cell? w _ h1
  have hg2 := World.block_lt_of_cell? w _ h2
  have hg3 := World.block_lt_of_cell? w _ h3
  have hm : meets f c d b = ((b.f0 == f) && ((b.f1.toList == c.toList) || (b.f1.toList == d.toList))) := by
    unfold meets
    rw [str_eqb, str_eqb]
  rw [hm]
  clear hm
  by_cases e0 : b.f0 = f
  · cases e1 : (b.f1.toList == c.toList) with
    | true =>
      go_enter Tryd.func27, Tryd.ntmps27
      go_wp2
      go_ret
      exact ⟨by simp [e0], (Below.refl _ _).alloc (Nat.le_refl _) _⟩
    | false =>
      cases e2 : (b.f1.toList == d.toList) with
      | true =>
        go_enter Tryd.func27, Tryd.ntmps27
        go_wp2
        go_ret
        exact ⟨by simp [e0], (Below.refl _ _).alloc (Nat.le_refl _) _⟩
      | false =>
        go_enter Tryd.func27, Tryd.ntmps27
        go_wp2
        go_ret
        exact ⟨by simp [e0], (Below.refl _ _).alloc (Nat.le_refl _) _⟩
  · go_enter Tryd.func27, Tryd.ntmps27
    go_wp2
    go_ret
    exact ⟨by simp [e0], (Below.refl _ _).alloc (Nat.le_refl _) _⟩

set_option maxHeartbeats 4000000 in
theorem index_met (A : Option Addr) (n : Nat) (l : List S34) (g1 g2 g3 : Addr) (f : Bool) (c d : ByteArray) (w : World) (hr : Kd.C k34 w A l.length l) (hn : l.length ≤ n) (hll : l.length < 1000000000001)
    (h1 : w.cell? g1 = some (.bool f)) (h2 : w.cell? g2 = some (.string c)) (h3 : w.cell? g3 = some (.string d)) :
    Calls Tryd.prog 32 #[.slice A l.length n, .func (.func 27) #[] #[.pointer (some g1), .pointer (some g2), .pointer (some g3)]] w fun e w' => ∃ i : Int, e = .returned (.int .i64 i) ∧ decide (i ≥ 0) = l.any (meets f c d) ∧ Below w.heap.size w w' := by
  have HR := Aside0.mk hr
  have HG := Aside0.mk (And.intro h1 (And.intro h2 h3))
  clear hr h1 h2 h3
  go_enter Tryd.func32, Tryd.ntmps32
  go_wp2
  go_loopw [8] (fun v8 wr => ∃ k : Nat, v8 = .int .i64 k ∧ k ≤ l.length ∧ Aside0 ((l.take k).any (meets f c d) = false ∧ Below w.heap.size w wr)) (fun v8 _ => l.length - (intOf v8).toNat)
  case atStart => exact ⟨0, rfl, Nat.zero_le _, ⟨rfl, Below.refl _ _⟩⟩
  case round =>
    obtain ⟨k, rfl, hk, HI⟩ := hrel
    by_cases hlt : k < l.length
    · obtain ⟨ad, rfl, hx0, hx1⟩ := at_T34 HR.out (k : Int) (by omega) (by omega)
      rw [Int.toNat_natCast] at hx0 hx1
      have hx0r := pw_cell_below HI.out.2 hx0
      have hx1r := pw_cell_below HI.out.2 hx1
      have HG1 := Aside0.mk (pw_cell_below HI.out.2 HG.out.1)
      have HG2 := Aside0.mk (pw_cell_below HI.out.2 HG.out.2.1)
      have HG3 := Aside0.mk (pw_cell_below HI.out.2 HG.out.2.2)
      clear hx0 hx1
      obtain ⟨b, hb⟩ : ∃ b, b = rd_T34 l (k : Int) := ⟨_, rfl⟩
      rw [← hb] at hx0r hx1r
      have hbk : b = l[k] := by
        rw [hb]
        unfold rd_T34
        rw [Int.toNat_natCast, List.getD_eq_getElem?_getD, List.getElem?_eq_getElem hlt]
        rfl
      have HH := Aside0.mk hbk
      clear hb hbk
      go_wp2_with fail
      refine (met1_calls b g1 g2 g3 f c d wr HG1.out HG2.out HG3.out).mono ?_
      rintro e w1 ⟨rfl, hb1⟩
      have HB := Aside0.mk (HI.out.2.trans (hb1.mono HI.out.2.size))
      clear hb1
      cases hb : meets f c d b with
      | true =>
        have HE := Aside0.mk hb
        clear hb
        go_wp2
        go_ret
        exact ⟨_, rfl, by rw [is_any l k hlt (by rw [← HH.out]; exact HE.out)]; simp, HB.out⟩
      | false =>
        have HE := Aside0.mk hb
        clear hb
        go_wp2
        go_roundw
        case rel =>
          refine ⟨k + 1, by go_num, by omega, ⟨?_, HB.out⟩⟩
          rw [take_any _ k hlt, HI.out.1, ← HH.out, HE.out]
          rfl
        case measure => simp [intOf]; omega
    · obtain rfl : k = l.length := by omega
      go_wp2
      go_ret
      refine ⟨_, rfl, ?_, HI.out.2⟩
      have h1 := HI.out.1
      rw [List.take_length] at h1
      rw [h1]
      rfl
set_option maxHeartbeats 4000000 in
theorem contains_met (A : Option Addr) (n : Nat) (l : List S34) (g1 g2 g3 : Addr) (f : Bool) (c d : ByteArray) (w : World) (hr : Kd.C k34 w A l.length l) (hn : l.length ≤ n) (hll : l.length < 1000000000001)
    (h1 : w.cell? g1 = some (.bool f)) (h2 : w.cell? g2 = some (.string c)) (h3 : w.cell? g3 = some (.string d)) :
    Calls Tryd.prog 26 #[.slice A l.length n, .func (.func 27) #[] #[.pointer (some g1), .pointer (some g2), .pointer (some g3)]] w fun e w' => e = .returned (.bool (l.any (meets f c d))) ∧ Below w.heap.size w w' := by
  have HI := Aside0.mk (index_met A n l g1 g2 g3 f c d w hr hn hll h1 h2 h3)
  clear hr h1 h2 h3
  go_enter Tryd.func26, Tryd.ntmps26
  go_wp2_with fail
  refine HI.out.mono ?_
  rintro e w1 ⟨i, rfl, hi, hb⟩
  have HB := Aside0.mk hb
  clear hb HI
  go_wp2
  go_ret
  exact ⟨by rw [← hi]; rfl, HB.out⟩

def rule_met.f (l0_0 : List S88) (l0_1 : List S90) (l0_2 : List S34) (a0_3 : Int) (a1 : Bool) (a2 : ByteArray) : Option Bool :=
  if l0_2.length < 1000000000001 then
    match addr_Canon.f a2 with
    | some (c, true) => match addr_Split.f c with
      | some (_, d, _) => some (l0_2.any (meets a1 c d))
      | none => none
    | some (_, false) => some false
    | none => none
  else none
theorem kd_below {α : Type} {K : Kd α} {w w' : World} {A : Option Addr} {n : Nat} {l : List α} (h : Kd.C K w A n l) (hb : Below w.heap.size w w') : Kd.C K w' A n l := by
  exact Kd.C_below h hb
set_option maxHeartbeats 4000000 in
theorem rule_met.calls (A0_0 : Option Addr) (c0_0 : Nat) (l0_0 : List S88) (A0_1 : Option Addr) (c0_1 : Nat) (l0_1 : List S90) (A0_2 : Option Addr) (c0_2 : Nat) (l0_2 : List S34) (a0_3 : Int) (a1 : Bool) (a2 : ByteArray) (r : Bool) (w : World)
    (hr0_0 : Kd.C k88 w A0_0 l0_0.length l0_0) (hc0_0 : l0_0.length ≤ c0_0) (hr0_1 : Kd.C k90 w A0_1 l0_1.length l0_1) (hc0_1 : l0_1.length ≤ c0_1) (hr0_2 : Kd.C k34 w A0_2 l0_2.length l0_2) (hc0_2 : l0_2.length ≤ c0_2) (h : rule_met.f l0_0 l0_1 l0_2 a0_3 a1 a2 = some r) :
    Calls Tryd.prog 19 #[.agg #[.slice A0_0 l0_0.length c0_0, .slice A0_1 l0_1.length c0_1, .slice A0_2 l0_2.length c0_2, .int .i64 a0_3], .bool a1, .string a2] w fun e w' => e = .returned (.bool r) ∧ Below w.heap.size w w' := by
  have HR := Aside0.mk hr0_2
  clear hr0_0 hr0_1 hr0_2
  unfold rule_met.f at h
  split at h
  case isFalse => cases h
  rename_i hl
  cases hsp : addr_Canon.f a2 with
  | none => rw [hsp] at h; cases h
  | some q =>
    obtain ⟨cn, ok⟩ := q
    rw [hsp] at h
    have HSP := Aside0.mk hsp
    clear hsp
    cases ok with
    | false =>
      obtain rfl : false = r := Option.some.inj h
      clear h
      go_enter Tryd.func19, Tryd.ntmps19
      go_wp2_with fail
      refine (addr_Canon.calls a2 _ _ _ HSP.out).mono ?_
      rintro e w1 ⟨rfl, hb1⟩
      have HB1 := Aside0.mk hb1
      have hws := hb1.size
      clear hb1
      go_wp2
      go_ret
      exact ⟨rfl, ((((Below.refl _ _).alloc (Nat.le_refl _) _).alloc (by simp) _).trans (HB1.out.mono (by simp; omega))).alloc (by simp at hws; omega) _⟩
    | true =>
      replace h : (match addr_Split.f cn with
        | some (_, d, _) => some (l0_2.any (meets a1 cn d))
        | none => none) = some r := h
      cases hsq : addr_Split.f cn with
      | none => rw [hsq] at h; cases h
      | some q =>
        obtain ⟨la, d, ok2⟩ := q
        rw [hsq] at h
        obtain rfl : l0_2.any (meets a1 cn d) = r := Option.some.inj h
        have HSQ := Aside0.mk hsq
        clear hsq h
        go_enter Tryd.func19, Tryd.ntmps19
        go_wp2_with fail
        refine (addr_Canon.calls a2 _ _ _ HSP.out).mono ?_
        rintro e w1 ⟨rfl, hb1⟩
        have hb0 : Below w.heap.size w w1 := (((Below.refl _ _).alloc (Nat.le_refl _) _).alloc (by simp) _).trans (hb1.mono (by simp; omega))
        have hbk3 : w1.heap[w.heap.size]? = some (.cells #[Value.slice A0_0 l0_0.length c0_0, .slice A0_1 l0_1.length c0_1, .slice A0_2 l0_2.length c0_2, .int .i64 a0_3] 26 (0, 0)) :=
          (hb1.block _ (by simp; omega)).trans (blk_alloc (blk_new _ _) _)
        have hbk4 : w1.heap[w.heap.size + 1]? = some (.cells #[.bool a1] 4 (0, 0)) :=
          (hb1.block _ (by simp)).trans (by have := blk_new (w.alloc (.cells #[Value.slice A0_0 l0_0.length c0_0, .slice A0_1 l0_1.length c0_1, .slice A0_2 l0_2.length c0_2, .int .i64 a0_3] 26)) (.cells #[.bool a1] 4); simpa using this)
        have hws : w.heap.size + 2 ≤ w1.heap.size := by have := hb1.size; simpa using this
        have HB := Aside0.mk (And.intro hb0 (And.intro hbk3 hbk4))
        clear hb0 hb1 hbk3 hbk4
        go_wp2_with fail
        refine (addr_Split.calls cn _ _ _ _ HSQ.out).mono ?_
        rintro e w2 ⟨rfl, hb2⟩
        have hbk7 : w2.heap[w1.heap.size]? = some (.cells #[.string cn] 9 (0, 0)) := (hb2.block _ (by simp)).trans (blk_new _ _)
        have hbk3 : w2.heap[w.heap.size]? = some (.cells #[Value.slice A0_0 l0_0.length c0_0, .slice A0_1 l0_1.length c0_1, .slice A0_2 l0_2.length c0_2, .int .i64 a0_3] 26 (0, 0)) := blk_below (blk_alloc HB.out.2.1 _) hb2
        have hbk4 : w2.heap[w.heap.size + 1]? = some (.cells #[.bool a1] 4 (0, 0)) := blk_below (blk_alloc HB.out.2.2 _) hb2
        have hws2 : w1.heap.size + 1 ≤ w2.heap.size := by have := hb2.size; simpa using this
        have hb0 : Below w.heap.size w w2 := (HB.out.1.alloc (by omega) _).trans (hb2.mono (by simp; omega))
        have hcz : ∀ o, (w2.alloc o).cell? ⟨w.heap.size, 2, none⟩ = some (.slice A0_2 l0_2.length c0_2) := fun o => (blk_cell (blk_alloc hbk3 o) 2).trans rfl
        have HB2 := Aside0.mk (And.intro hb0 (And.intro hbk3 (And.intro hbk4 hbk7)))
        clear hb0 hb2 hbk3 hbk4 hbk7
        go_wp2_with fail
        refine (contains_met A0_2 c0_2 l0_2 ⟨w.heap.size + 1, 0, none⟩ ⟨w1.heap.size, 0, none⟩ ⟨w2.heap.size, 0, none⟩ a1 cn d _ (kd_below HR.out (HB2.out.1.alloc (by omega) _)) hc0_2 hl ((blk_cell (blk_alloc HB2.out.2.2.1 _) 0).trans rfl) ((blk_cell (blk_alloc HB2.out.2.2.2 _) 0).trans rfl) ((blk_cell (blk_new _ _) 0).trans rfl)).mono ?_
        rintro e w3 ⟨rfl, hb3⟩
        have HB3 := Aside0.mk ((HB2.out.1.alloc (by omega) (.cells #[.string d] 9)).trans (hb3.mono (by simp; omega)))
        clear hb3
        go_wp2
        go_ret
        exact ⟨rfl, HB3.out⟩
end Go.Proofs.YtpkeplifflnemaaDoor.Hand
