/- env.Good, walked by hand. -/
import Derived.Test.YtljhfaneepehcaaDoorHandEnv
namespace Go.Proofs.YtljhfaneepehcaaDoor.Hand
open Go.RowKit Go.Proofs.YtljhfaneepehcaaDoorW.PrintWords Go.Proofs.YtljhfaneepehcaaDoorW.PrintLast Go.Proofs.YtljhfaneepehcaaDoorW.PrintMore Go.Proofs.YtljhfaneepehcaaDoor.Addr
set_option linter.unusedVariables false
set_option linter.unusedSimpArgs false
theorem C_blockI {W : World} {k : IntKind} {g e : Nat} {fr : Nat × Nat} {xs : List Int} {cs : Array Value} (hb : W.heap[g]? = some (.cells cs e fr)) (hcs : cs = ((xs.map (Value.int k)).toArray)) (hn : xs.length ≤ 9223372036854775807) : Kd.C (Kd.int k) W (some ⟨g, 0, none⟩) xs.length xs := by
  subst hcs
  refine Kd.C_of_reads (d := (0 : Int)) ⟨rfl, hn, fun _ => ⟨_, rfl, fun j hj => ?_⟩⟩
  rw [add_plain]
  simp [World.cell?, hb, List.getD_eq_getElem?_getD, hj]
def env_Good.f (k : Nat) (a0 a1 a2 a3 a4 : Int) (a5 : ByteArray) (l6 : List ByteArray) (l7 : List Int) (l8 : List ByteArray) : Option Bool :=
  (idxO lateP 0 [a0, a1, a2, a3, a4]).bind fun i => if i ≥ 0 then some false else
  (if a5.size = 0 then some true else PB.env_mailbox.f a5).bind fun b => if b = true then
    if l6.length ≥ 1 then if l6.length ≤ 20 then (idxO strayP 0 l6).bind fun i => if i ≥ 0 then some false else
      if l7.length ≤ 50 then (idxO oddP 0 l7).bind fun i => if i ≥ 0 then some false else PB.dots_Good.f k l8
      else some false
    else some false else some false
  else some false
set_option maxHeartbeats 8000000 in
theorem env_Good.calls (k : Nat) (a0 a1 a2 a3 a4 : Int) (a5 : ByteArray) (A6 : Option Addr) (c6 : Nat) (l6 : List ByteArray) (A7 : Option Addr) (c7 : Nat) (l7 : List Int) (A8 : Option Addr) (c8 : Nat) (l8 : List ByteArray) (r : Bool) (w : World) (hr6 : Kd.C Kd.string w A6 l6.length l6) (hc6 : l6.length ≤ c6) (hr7 : Kd.C (Kd.int .i64) w A7 l7.length l7) (hc7 : l7.length ≤ c7) (hr8 : Kd.C Kd.string w A8 l8.length l8) (hc8 : l8.length ≤ c8) (h : env_Good.f k a0 a1 a2 a3 a4 a5 l6 l7 l8 = some r) :
    Calls Tryd.prog 14 #[.agg #[.int .i64 a0, .int .i64 a1, .int .i64 a2, .int .i64 a3, .int .i64 a4, .string a5, .slice A6 l6.length c6, .slice A7 l7.length c7, .slice A8 l8.length c8]] w fun e w' => e = .returned (.bool r) ∧ Below w.heap.size w w' := by
  have hc6' := hc6
  have hc7' := hc7
  have hc8' := hc8
  have HR6 := Aside0.mk hr6
  have HR7 := Aside0.mk hr7
  have HR8 := Aside0.mk hr8
  clear hr6 hr7 hr8
  have HH := Aside0.mk h
  clear h
  go_enter Tryd.func14, Tryd.ntmps14
  go_wp2_with fail
  obtain ⟨i0, h0, h⟩ := Option.bind_eq_some_iff.1 HH.out
  have HH2 := Aside0.mk h
  clear HH h
  refine (contains_late _ 5 [a0, a1, a2, a3, a4] i0 _ (C_blockI (g := w.heap.size + 1) (e := 42) (fr := (0, 0)) (cs := #[.int .i64 a0, .int .i64 a1, .int .i64 a2, .int .i64 a3, .int .i64 a4]) ?_ rfl (by simp)) (by simp) (by simp) h0).mono ?_
  · have := blk_new (w.alloc (.cells #[.int .i64 a0, .int .i64 a1, .int .i64 a2, .int .i64 a3, .int .i64 a4, .string a5, .slice A6 l6.length c6, .slice A7 l7.length c7, .slice A8 l8.length c8] 25)) (.cells #[.int .i64 a0, .int .i64 a1, .int .i64 a2, .int .i64 a3, .int .i64 a4] 42)
    simpa using this
  rintro e w1 ⟨rfl, hb1⟩
  have hm1 := blk_below (blk_alloc (blk_new w (.cells #[.int .i64 a0, .int .i64 a1, .int .i64 a2, .int .i64 a3, .int .i64 a4, .string a5, .slice A6 l6.length c6, .slice A7 l7.length c7, .slice A8 l8.length c8] 25)) (.cells #[.int .i64 a0, .int .i64 a1, .int .i64 a2, .int .i64 a3, .int .i64 a4] 42)) hb1
  have HB1 := Aside0.mk (below_step (below_alloc (below_alloc (Below.refl _ _) _) _) hb1)
  have hc5 := (blk_cell hm1 5).trans rfl
  have hc6 := (blk_cell hm1 6).trans rfl
  have hc7 := (blk_cell hm1 7).trans rfl
  have hc8 := (blk_cell hm1 8).trans rfl
  have HM1 := Aside0.mk hm1
  clear hb1 hm1 h0
  by_cases hi : i0 ≥ 0
  · have hi' : decide (0 ≤ i0) = true := decide_eq_true hi
    have h2 := HH2.out
    rw [if_pos hi] at h2
    have hrr := Option.some.inj h2
    subst hrr
    clear h2 hi
    go_wp2
    go_ret
    exact ⟨rfl, HB1.out⟩
  · have hi' : decide (0 ≤ i0) = false := decide_eq_false hi
    have h2 := HH2.out
    rw [if_neg hi] at h2
    have HH3 := Aside0.mk h2
    clear h2 hi HH2
    obtain ⟨b, hb0, hb2⟩ := Option.bind_eq_some_iff.1 HH3.out
    replace HH3 := Aside0.mk hb2
    clear hb2
    by_cases hf : a5.size = 0
    · have hf' : a5.toList = [] := by
        rw [Lib.toList_data]
        exact List.eq_nil_of_length_eq_zero (by rw [size_list]; exact hf)
      rw [if_pos hf] at hb0
      obtain rfl := Option.some.inj hb0
      replace HH3 := Aside0.mk ((if_pos rfl).symm.trans HH3.out)
      clear hb0 hf
      by_cases h1 : l6.length ≥ 1
      case neg =>
        have h1' : decide (1 ≤ (l6.length : Int)) = false := decide_eq_false (by omega)
        replace HH3 := Aside0.mk ((if_neg h1).symm.trans HH3.out)
        obtain rfl := Option.some.inj HH3.out
        go_wp2
        go_ret
        exact ⟨rfl, HB1.out⟩
      have h1' : decide (1 ≤ (l6.length : Int)) = true := decide_eq_true (by omega)
      replace HH3 := Aside0.mk ((if_pos h1).symm.trans HH3.out)
      by_cases h2 : l6.length ≤ 20
      case neg =>
        have h2' : decide ((l6.length : Int) ≤ 20) = false := decide_eq_false (by omega)
        replace HH3 := Aside0.mk ((if_neg h2).symm.trans HH3.out)
        obtain rfl := Option.some.inj HH3.out
        go_wp2
        go_ret
        exact ⟨rfl, HB1.out⟩
      have h2' : decide ((l6.length : Int) ≤ 20) = true := decide_eq_true (by omega)
      replace HH3 := Aside0.mk ((if_pos h2).symm.trans HH3.out)
      obtain ⟨i1, hs1, hs2⟩ := Option.bind_eq_some_iff.1 HH3.out
      replace HH3 := Aside0.mk hs2
      clear hs2
      have HCS := Aside0.mk (contains_stray A6 c6 l6 i1 w1 (Kd.C_below HR6.out HB1.out) hc6' (by omega) hs1)
      clear hs1
      go_wp2_with fail
      refine HCS.out.mono ?_
      rintro e w5 ⟨rfl, hb5⟩
      have hm5 := blk_below HM1.out hb5
      have hc75 := (blk_cell hm5 7).trans rfl
      have hc85 := (blk_cell hm5 8).trans rfl
      have HB5 := Aside0.mk (below_step HB1.out hb5)
      have HM5 := Aside0.mk hm5
      clear hb5 hm5
      by_cases hi1 : i1 ≥ 0
      case pos =>
        have hi1' : decide (0 ≤ i1) = true := decide_eq_true hi1
        replace HH3 := Aside0.mk ((if_pos hi1).symm.trans HH3.out)
        obtain rfl := Option.some.inj HH3.out
        go_wp2
        go_ret
        exact ⟨rfl, HB5.out⟩
      have hi1' : decide (0 ≤ i1) = false := decide_eq_false hi1
      replace HH3 := Aside0.mk ((if_neg hi1).symm.trans HH3.out)
      by_cases h3 : l7.length ≤ 50
      case neg =>
        have h3' : decide ((l7.length : Int) ≤ 50) = false := decide_eq_false (by omega)
        replace HH3 := Aside0.mk ((if_neg h3).symm.trans HH3.out)
        obtain rfl := Option.some.inj HH3.out
        go_wp2
        go_ret
        exact ⟨rfl, HB5.out⟩
      have h3' : decide ((l7.length : Int) ≤ 50) = true := decide_eq_true (by omega)
      replace HH3 := Aside0.mk ((if_pos h3).symm.trans HH3.out)
      obtain ⟨i2, ho1, ho2⟩ := Option.bind_eq_some_iff.1 HH3.out
      replace HH3 := Aside0.mk ho2
      clear ho2
      have HCO := Aside0.mk (contains_odd A7 c7 l7 i2 w5 (Kd.C_below HR7.out HB5.out) hc7' (by omega) ho1)
      clear ho1 hi1 h1 h2 h3
      go_wp2_with fail
      refine HCO.out.mono ?_
      rintro e w6 ⟨rfl, hb6⟩
      have hm6 := blk_below HM5.out hb6
      have hc86 := (blk_cell hm6 8).trans rfl
      have HB6 := Aside0.mk (below_step HB5.out hb6)
      clear hb6 hm6
      by_cases hi2 : i2 ≥ 0
      case pos =>
        have hi2' : decide (0 ≤ i2) = true := decide_eq_true hi2
        replace HH3 := Aside0.mk ((if_pos hi2).symm.trans HH3.out)
        obtain rfl := Option.some.inj HH3.out
        go_wp2
        go_ret
        exact ⟨rfl, HB6.out⟩
      have hi2' : decide (0 ≤ i2) = false := decide_eq_false hi2
      replace HH3 := Aside0.mk ((if_neg hi2).symm.trans HH3.out)
      have HCD := Aside0.mk (PB.dots_Good.calls k A8 c8 l8 r w6 (Kd.C_below HR8.out HB6.out) hc8' HH3.out)
      clear hi2
      go_wp2_with fail
      refine HCD.out.mono ?_
      rintro e w7 ⟨rfl, hb7⟩
      have HB7 := Aside0.mk (below_step HB6.out hb7.below)
      clear hb7
      go_wp2
      go_ret
      exact ⟨rfl, HB7.out⟩
    · have hf' : (a5.toList == []) = false := by
        rw [beq_eq_false_iff_ne]
        intro e
        rw [Lib.toList_data] at e
        exact hf (by rw [← size_list, e]; rfl)
      rw [if_neg hf] at hb0
      have HCM := Aside0.mk (PB.env_mailbox.calls a5 b w1 hb0)
      clear hb0 hf
      go_wp2_with fail
      refine HCM.out.mono ?_
      rintro e w2 ⟨rfl, hb2⟩
      have hm2 := blk_below HM1.out hb2
      have hc62 := (blk_cell hm2 6).trans rfl
      have hc72 := (blk_cell hm2 7).trans rfl
      have hc82 := (blk_cell hm2 8).trans rfl
      have HB2 := Aside0.mk (below_step HB1.out hb2)
      have HM2 := Aside0.mk hm2
      clear hb2 hm2
      cases b with
      | false =>
        replace HH3 := Aside0.mk ((if_neg (by decide)).symm.trans HH3.out)
        obtain rfl := Option.some.inj HH3.out
        go_wp2
        go_ret
        exact ⟨rfl, HB2.out⟩
      | true =>
        replace HH3 := Aside0.mk ((if_pos rfl).symm.trans HH3.out)
        by_cases h1 : l6.length ≥ 1
        case neg =>
          have h1' : decide (1 ≤ (l6.length : Int)) = false := decide_eq_false (by omega)
          replace HH3 := Aside0.mk ((if_neg h1).symm.trans HH3.out)
          obtain rfl := Option.some.inj HH3.out
          go_wp2
          go_ret
          exact ⟨rfl, HB2.out⟩
        have h1' : decide (1 ≤ (l6.length : Int)) = true := decide_eq_true (by omega)
        replace HH3 := Aside0.mk ((if_pos h1).symm.trans HH3.out)
        by_cases h2 : l6.length ≤ 20
        case neg =>
          have h2' : decide ((l6.length : Int) ≤ 20) = false := decide_eq_false (by omega)
          replace HH3 := Aside0.mk ((if_neg h2).symm.trans HH3.out)
          obtain rfl := Option.some.inj HH3.out
          go_wp2
          go_ret
          exact ⟨rfl, HB2.out⟩
        have h2' : decide ((l6.length : Int) ≤ 20) = true := decide_eq_true (by omega)
        replace HH3 := Aside0.mk ((if_pos h2).symm.trans HH3.out)
        obtain ⟨i1, hs1, hs2⟩ := Option.bind_eq_some_iff.1 HH3.out
        replace HH3 := Aside0.mk hs2
        clear hs2
        have HCS := Aside0.mk (contains_stray A6 c6 l6 i1 w2 (Kd.C_below HR6.out HB2.out) hc6' (by omega) hs1)
        clear hs1
        go_wp2_with fail
        refine HCS.out.mono ?_
        rintro e w5 ⟨rfl, hb5⟩
        have hm5 := blk_below HM2.out hb5
        have hc75 := (blk_cell hm5 7).trans rfl
        have hc85 := (blk_cell hm5 8).trans rfl
        have HB5 := Aside0.mk (below_step HB2.out hb5)
        have HM5 := Aside0.mk hm5
        clear hb5 hm5
        by_cases hi1 : i1 ≥ 0
        case pos =>
          have hi1' : decide (0 ≤ i1) = true := decide_eq_true hi1
          replace HH3 := Aside0.mk ((if_pos hi1).symm.trans HH3.out)
          obtain rfl := Option.some.inj HH3.out
          go_wp2
          go_ret
          exact ⟨rfl, HB5.out⟩
        have hi1' : decide (0 ≤ i1) = false := decide_eq_false hi1
        replace HH3 := Aside0.mk ((if_neg hi1).symm.trans HH3.out)
        by_cases h3 : l7.length ≤ 50
        case neg =>
          have h3' : decide ((l7.length : Int) ≤ 50) = false := decide_eq_false (by omega)
          replace HH3 := Aside0.mk ((if_neg h3).symm.trans HH3.out)
          obtain rfl := Option.some.inj HH3.out
          go_wp2
          go_ret
          exact ⟨rfl, HB5.out⟩
        have h3' : decide ((l7.length : Int) ≤ 50) = true := decide_eq_true (by omega)
        replace HH3 := Aside0.mk ((if_pos h3).symm.trans HH3.out)
        obtain ⟨i2, ho1, ho2⟩ := Option.bind_eq_some_iff.1 HH3.out
        replace HH3 := Aside0.mk ho2
        clear ho2
        have HCO := Aside0.mk (contains_odd A7 c7 l7 i2 w5 (Kd.C_below HR7.out HB5.out) hc7' (by omega) ho1)
        clear ho1 hi1 h1 h2 h3
        go_wp2_with fail
        refine HCO.out.mono ?_
        rintro e w6 ⟨rfl, hb6⟩
        have hm6 := blk_below HM5.out hb6
        have hc86 := (blk_cell hm6 8).trans rfl
        have HB6 := Aside0.mk (below_step HB5.out hb6)
        clear hb6 hm6
        by_cases hi2 : i2 ≥ 0
        case pos =>
          have hi2' : decide (0 ≤ i2) = true := decide_eq_true hi2
          replace HH3 := Aside0.mk ((if_pos hi2).symm.trans HH3.out)
          obtain rfl := Option.some.inj HH3.out
          go_wp2
          go_ret
          exact ⟨rfl, HB6.out⟩
        have hi2' : decide (0 ≤ i2) = false := decide_eq_false hi2
        replace HH3 := Aside0.mk ((if_neg hi2).symm.trans HH3.out)
        have HCD := Aside0.mk (PB.dots_Good.calls k A8 c8 l8 r w6 (Kd.C_below HR8.out HB6.out) hc8' HH3.out)
        clear hi2
        go_wp2_with fail
        refine HCD.out.mono ?_
        rintro e w7 ⟨rfl, hb7⟩
        have HB7 := Aside0.mk (below_step HB6.out hb7.below)
        clear hb7
        go_wp2
        go_ret
        exact ⟨rfl, HB7.out⟩
end Go.Proofs.YtljhfaneepehcaaDoor.Hand
