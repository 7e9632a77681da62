/- slices.IndexFunc over hops with route.Hop's closure; route.Hop. -/
import Derived.Test.YtaifpiknddgnmaaDoorPBx3
import Derived.Test.YtaifpiknddgnmaaDoorAddrEv
import Derived.WalkKit
import Derived.ProofKit
namespace Go.Proofs.YtaifpiknddgnmaaDoor.Hand
open Go.RowKit Go.Proofs.YtaifpiknddgnmaaDoorW.PrintWords Go.Proofs.YtaifpiknddgnmaaDoorW.PrintLast Go.Proofs.YtaifpiknddgnmaaDoorW.PrintMore Go.Proofs.YtaifpiknddgnmaaDoor.Addr Go.Proofs.YtaifpiknddgnmaaDoor.PB
set_option linter.unusedVariables false
set_option linter.unusedSimpArgs false

/-- Where the first hop for a domain stands. -/
def hopAt (d : ByteArray) : List S32 → Option Nat
  | [] => none
  | h :: l => if h.f0 = d then some 0 else (hopAt d l).map (· + 1)

def hopIdx (d : ByteArray) (l : List S32) : Int := match hopAt d l with
  | some i => (i : Int)
  | none => -1
theorem str_eqb (a b : ByteArray) : (a.toList == b.toList) = decide (a = b) := by
  rw [Bool.eq_iff_iff, beq_iff_eq, decide_eq_true_iff, Lib.toList_data, Lib.toList_data]
  exact ⟨fun h => ByteArray.ext (Array.toList_inj.1 h), fun h => by rw [h]⟩
theorem hopAt_app (d : ByteArray) (a : List S32) (b : List S32) (h : hopAt d a = none) : hopAt d (a ++ b) = (hopAt d b).map (· + a.length) := by
  induction a with
  | nil =>
    rw [List.nil_append]
    cases hopAt d b <;> rfl
  | cons x a ih =>
    rw [List.cons_append, hopAt]
    rw [hopAt] at h
    by_cases e : x.f0 = d
    · rw [if_pos e] at h
      cases h
    · rw [if_neg e] at h ⊢
      rw [ih (by simpa using h), Option.map_map, List.length_cons]
      congr 1
theorem hopAt_hit (d : ByteArray) (l : List S32) (k : Nat) (hk : k < l.length) (h : hopAt d (l.take k) = none) (he : l[k].f0 = d) : hopAt d l = some k := by
  have e := List.take_append_drop k l
  rw [← e, hopAt_app d _ _ h, List.drop_eq_getElem_cons hk, hopAt, if_pos he, Option.map_some, List.length_take, Nat.min_eq_left (Nat.le_of_lt hk), Nat.zero_add]
theorem hopAt_miss (d : ByteArray) (l : List S32) (k : Nat) (hk : k < l.length) (h : hopAt d (l.take k) = none) (he : ¬ l[k].f0 = d) : hopAt d (l.take (k + 1)) = none := by
  rw [List.take_succ_eq_append_getElem hk, hopAt_app d _ _ h, hopAt, if_neg he]
  rfl
theorem rd_hop (l : List S32) (k : Nat) (hk : k < l.length) : rd_T32 l (k : Int) = l[k] := by
  unfold rd_T32
  rw [Int.toNat_natCast, List.getD_eq_getElem?_getD, List.getElem?_eq_getElem hk]
  rfl
set_option maxHeartbeats 4000000 in
theorem hop1_calls (h : S32) (g : Addr) (d : ByteArray) (w : World) (hd : w.cell? g = some (.string d)) :
    Calls Tryd.prog 17 #[.agg #[.string h.f0, .string h.f1], .pointer (some g)] w fun e w' => e = .returned (.bool (decide (h.f0 = d))) ∧ Below w.heap.size w w' := by
  have hg := World.block_lt_of_cell? w _ hd
  go_enter Tryd.func17, Tryd.ntmps17
  go_wp2
  go_ret
  exact ⟨by rw [str_eqb]; rfl, (Below.refl _ _).alloc (Nat.le_refl _) _⟩
set_option maxHeartbeats 4000000 in
theorem index_hop (A : Option Addr) (c : Nat) (l : List S32) (g : Addr) (d : ByteArray) (w : World) (hr : Kd.C k32 w A l.length l) (hc : l.length ≤ c) (hll : l.length < 1000000000001) (hd : w.cell? g = some (.string d)) :
    Calls Tryd.prog 16 #[.slice A l.length c, .func (.func 17) #[] #[.pointer (some g)]] w fun e w' => e = .returned (.int .i64 (hopIdx d l)) ∧ Below w.heap.size w w' := by
  have HR := Aside0.mk hr
  have HD := Aside0.mk hd
  clear hr hd
  go_enter Tryd.func16, Tryd.ntmps16
  go_wp2
  go_loopw [8] (fun v8 wr => ∃ k : Nat, v8 = .int .i64 k ∧ k ≤ l.length ∧ Aside0 (hopAt d (l.take k) = none ∧ Below w.heap.size w wr)) (fun v8 _ => l.length - (intOf v8).toNat)
  case atStart => exact ⟨0, rfl, Nat.zero_le _, ⟨rfl, Below.refl _ _⟩⟩
  case round =>
    obtain ⟨k, rfl, hk, HI⟩ := hrel
    by_cases hlt : k < l.length
    · obtain ⟨ad, rfl, hx0, hx1⟩ := at_T32 HR.out (k : Int) (by omega) (by omega)
      rw [Int.toNat_natCast] at hx0 hx1
      have hx0r := pw_cell_below HI.out.2 hx0
      have hx1r := pw_cell_below HI.out.2 hx1
      have hdr := pw_cell_below HI.out.2 HD.out
      clear hx0 hx1
      obtain ⟨h, hh⟩ : ∃ h, h = rd_T32 l (k : Int) := ⟨_, rfl⟩
      rw [← hh] at hx0r hx1r
      have HH := Aside0.mk hh
      clear hh
      go_wp2_with fail
      refine (hop1_calls h g d wr hdr).mono ?_
      rintro e w1 ⟨rfl, hb1⟩
      have HB := Aside0.mk (HI.out.2.trans (hb1.mono HI.out.2.size))
      clear hb1
      by_cases hb : h.f0 = d
      · have hb' : decide (h.f0 = d) = true := decide_eq_true hb
        have HE := Aside0.mk hb
        clear hb
        go_wp2
        go_ret
        refine ⟨?_, HB.out⟩
        have := hopAt_hit d l k hlt HI.out.1 (by rw [← rd_hop l k hlt, ← HH.out]; exact HE.out)
        unfold hopIdx
        rw [this]
        rfl
      · have hb' : decide (h.f0 = d) = false := decide_eq_false hb
        have HE := Aside0.mk hb
        clear hb
        go_wp2
        go_roundw
        case rel =>
          refine ⟨k + 1, by go_num, by omega, ⟨?_, HB.out⟩⟩
          exact hopAt_miss d l k hlt HI.out.1 (by rw [← rd_hop l k hlt, ← HH.out]; exact HE.out)
        case measure => simp [intOf]; omega
    · obtain rfl : k = l.length := by omega
      go_wp2
      go_ret
      refine ⟨?_, HI.out.2⟩
      have h1 := HI.out.1
      rw [List.take_length] at h1
      unfold hopIdx
      rw [h1]
      rfl

theorem hop_lt (d : ByteArray) (l : List S32) (k : Nat) (h : hopAt d l = some k) : k < l.length := by
  induction l generalizing k with
  | nil => cases h
  | cons x l ih =>
    rw [hopAt] at h
    rw [List.length_cons]
    split at h
    · injection h with h
      omega
    · obtain ⟨j, h1, rfl⟩ := Option.map_eq_some_iff.1 h
      have := ih j h1
      show j + 1 < _
      omega
def hopTo (l : List S32) (d : ByteArray) : ByteArray × Bool := match hopAt d l with
  | some i => ((rd_T32 l (i : Int)).f1, true)
  | none => match hopAt ⟨#[42]⟩ l with
    | some i => ((rd_T32 l (i : Int)).f1, true)
    | none => (⟨#[]⟩, false)
def route_Hop.f (l0_0 : List S91) (l0_1 : List S32) (l0_2 : List S93) (a0_3 : Int) (a1 : ByteArray) : Option (ByteArray × Bool) :=
  if l0_1.length < 1000000000001 then
    match addr_Split.f a1 with
    | some (_, b, true) => if b.size < 1000000000000 then some (hopTo l0_1 (mk (lowerL b.data.toList))) else none
    | some (_, _, false) => some (⟨#[]⟩, false)
    | none => none
  else none
def dst (d0 : ByteArray) (j : Nat) : ByteArray := if j = 0 then d0 else ⟨#[42]⟩
theorem kd_below {α : Type} {K : Kd α} {w w' : World} {A : Option Addr} {n : Nat} {l : List α} (h : Kd.C K w A n l) (hb : Below w.heap.size w w') : Kd.C K w' A n l := by
  exact Kd.C_below h hb
set_option maxHeartbeats 4000000 in
theorem route_Hop.calls (A0_0 : Option Addr) (c0_0 : Nat) (l0_0 : List S91) (A0_1 : Option Addr) (c0_1 : Nat) (l0_1 : List S32) (A0_2 : Option Addr) (c0_2 : Nat) (l0_2 : List S93) (a0_3 : Int) (a1 : ByteArray) (r1 : ByteArray) (r2 : Bool) (w : World)
    (hr0_0 : Kd.C k91 w A0_0 l0_0.length l0_0) (hc0_0 : l0_0.length ≤ c0_0) (hr0_1 : Kd.C k32 w A0_1 l0_1.length l0_1) (hc0_1 : l0_1.length ≤ c0_1) (hr0_2 : Kd.C k93 w A0_2 l0_2.length l0_2) (hc0_2 : l0_2.length ≤ c0_2) (h : route_Hop.f l0_0 l0_1 l0_2 a0_3 a1 = some (r1, r2)) :
    Calls Tryd.prog 9 #[.agg #[.slice A0_0 l0_0.length c0_0, .slice A0_1 l0_1.length c0_1, .slice A0_2 l0_2.length c0_2, .int .i64 a0_3], .string a1] w fun e w' => e = .returned (.tuple #[.string r1, .bool r2]) ∧ Below w.heap.size w w' := by
  have HR := Aside0.mk hr0_1
  clear hr0_0 hr0_1 hr0_2
  unfold route_Hop.f at h
  split at h
  case isFalse => cases h
  rename_i hl
  cases hsp : addr_Split.f a1 with
  | none => rw [hsp] at h; cases h
  | some q =>
    obtain ⟨la, b, ok⟩ := q
    rw [hsp] at h
    have HSP := Aside0.mk hsp
    clear hsp
    cases ok with
    | false =>
      have h := Option.some.inj h
      injection h with h1 h2
      subst h1 h2
      go_enter Tryd.func9, Tryd.ntmps9
      go_wp2_with fail
      refine (addr_Split.calls a1 _ _ _ _ HSP.out).mono ?_
      rintro e w1 ⟨rfl, hb1⟩
      have HB1 := Aside0.mk hb1
      clear hb1
      go_wp2
      go_ret2
      exact ⟨rfl, ((Below.refl _ _).alloc (Nat.le_refl _) _).trans (HB1.out.mono (by simp))⟩
    | true =>
      replace h : (if b.size < 1000000000000 then some (hopTo l0_1 (mk (lowerL b.data.toList))) else none) = some (r1, r2) := h
      by_cases hbs : b.size < 1000000000000
      case neg => rw [if_neg hbs] at h; cases h
      rw [if_pos hbs] at h
      have h := Option.some.inj h
      go_enter Tryd.func9, Tryd.ntmps9
      go_wp2_with fail
      refine (addr_Split.calls a1 _ _ _ _ HSP.out).mono ?_
      rintro e w1 ⟨rfl, hb1⟩
      have HB1 := Aside0.mk hb1
      have hbk : w1.heap[w.heap.size]? = some (.cells #[Value.slice A0_0 l0_0.length c0_0, .slice A0_1 l0_1.length c0_1, .slice A0_2 l0_2.length c0_2, .int .i64 a0_3] 26 (0, 0)) :=
        (hb1.block _ (by simp)).trans (by show (w.heap.push _)[w.heap.size]? = _; simp)
      have hlow : addr_Lower.f b = some (mk (lowerL b.data.toList)) := by
        unfold addr_Lower.f
        rw [if_pos hbs]
      have HLO := Aside0.mk hlow
      have HBX := Aside0.mk hbk
      have hws1 : w.heap.size + 1 ≤ w1.heap.size := by have := hb1.size; simpa using this
      clear hlow hb1 hbk
      go_wp2_with fail
      refine (addr_Lower.calls b _ _ HLO.out).mono ?_
      rintro e w2 ⟨rfl, hb2⟩
      have HB2 := Aside0.mk (hb2.mono hws1 : Below (w.heap.size + 1) w1 w2)
      have hws2 : w.heap.size + 1 ≤ w2.heap.size := Nat.le_trans hws1 hb2.size
      clear hb2
      obtain ⟨d0, hd0⟩ : ∃ d, d = mk (lowerL b.data.toList) := ⟨_, rfl⟩
      rw [← hd0] at h
      rw [← hd0]
      have H := Aside0.mk h
      have HD0 := Aside0.mk hd0
      clear h hd0
      have hold : Aside0 (Below w.heap.size w w1) := ⟨((Below.refl _ _).alloc (Nat.le_refl _) _).trans (HB1.out.mono (by simp))⟩
      go_wp2
      go_loopw [23] (fun v23 wr => ∃ k : Nat, v23 = .int .i64 k ∧ k ≤ 2 ∧ Aside0 ((∀ j, j < k → hopAt (dst d0 j) l0_1 = none) ∧ Below (w.heap.size + 1) w1 wr)) (fun v23 _ => 2 - (intOf v23).toNat)
      case atStart => exact ⟨0, rfl, Nat.zero_le _, ⟨fun j hj => absurd hj (Nat.not_lt_zero _), HB2.out⟩⟩
      case round =>
        obtain ⟨k, rfl, hk, HI⟩ := hrel
        by_cases hlt : k < 2
        · have hbk : wr.heap[w.heap.size]? = some (.cells #[Value.slice A0_0 l0_0.length c0_0, .slice A0_1 l0_1.length c0_1, .slice A0_2 l0_2.length c0_2, .int .i64 a0_3] 26 (0, 0)) :=
            (HI.out.2.block _ (Nat.lt_succ_self _)).trans HBX.out
          have hwr : w.heap.size + 1 ≤ wr.heap.size := Nat.le_trans hws1 HI.out.2.size
          have hcz1 : ∀ o, (wr.alloc o).cell? ⟨w.heap.size, 1, none⟩ = some (.slice A0_1 l0_1.length c0_1) := fun o => (blk_cell (blk_alloc hbk o) 1).trans rfl
          have HBK := Aside0.mk hbk
          clear hbk
          have hix : ∀ w, (Instr.index 45 (.agg #[.string d0, .string ⟨#[42]⟩]) (.int .i64 (k : Int))).run Tryd.prog w = .ok (.string (dst d0 k)) w := by
            intro w
            rcases Nat.lt_or_ge k 1 with h | h
            · obtain rfl : k = 0 := by omega
              kernel_rfl
            · obtain rfl : k = 1 := by omega
              kernel_rfl
          obtain ⟨d, hd⟩ : ∃ d, d = dst d0 k := ⟨_, rfl⟩
          rw [← hd] at hix
          have HD := Aside0.mk hd
          clear hd
          go_wp2_with fail
          refine (index_hop A0_1 c0_1 l0_1 ⟨wr.heap.size, 0, none⟩ d (wr.alloc (.cells #[.string d] 9)) (kd_below HR.out (hold.out.trans ((HI.out.2.mono (Nat.le_succ _)).alloc (Nat.le_of_succ_le hwr) _))) hc0_1 hl (by simp)).mono ?_
          rintro e w3 ⟨rfl, hb3⟩
          have hbk3 : w3.heap[w.heap.size]? = some (.cells #[Value.slice A0_0 l0_0.length c0_0, .slice A0_1 l0_1.length c0_1, .slice A0_2 l0_2.length c0_2, .int .i64 a0_3] 26 (0, 0)) := blk_below (blk_alloc HBK.out _) hb3
          have hcz3 : w3.cell? ⟨w.heap.size, 1, none⟩ = some (.slice A0_1 l0_1.length c0_1) := (blk_cell hbk3 1).trans rfl
          have HB3 := Aside0.mk ((HI.out.2.alloc hwr (.cells #[.string d] 9)).trans (hb3.mono (by simp; omega)) : Below (w.heap.size + 1) w1 w3)
          clear hb3 hbk3 hcz1
          unfold hopIdx
          cases hat : hopAt d l0_1 with
          | none =>
            have HAT := Aside0.mk hat
            clear hat
            go_wp2
            go_roundw
            case rel =>
              refine ⟨k + 1, by go_num, by omega, ⟨fun j hj => ?_, HB3.out⟩⟩
              rcases Nat.lt_or_ge j k with hj2 | hj2
              · exact HI.out.1 j hj2
              · obtain rfl : j = k := by omega
                rw [← HD.out]
                exact HAT.out
            case measure => simp [intOf]; omega
          | some i =>
            have HAT := Aside0.mk hat
            have hil := hop_lt d l0_1 i hat
            clear hat
            obtain ⟨ad, rfl, hx0, hx1⟩ := at_T32 HR.out (i : Int) (by omega) (by omega)
            rw [Int.toNat_natCast] at hx0 hx1
            have hx1r := pw_cell_below (hold.out.trans (HB3.out.mono (Nat.le_succ _))) hx1
            clear hx0 hx1
            go_wp2
            go_ret2
            refine ⟨?_, hold.out.trans (HB3.out.mono (Nat.le_succ _))⟩
            have hh := H.out
            have ha := HAT.out
            rw [HD.out] at ha
            unfold hopTo at hh
            rcases Nat.lt_or_ge k 1 with h0 | h0
            · obtain rfl : k = 0 := by omega
              rw [show dst d0 0 = d0 from rfl] at ha
              rw [ha] at hh
              injection hh with h1 h2
              rw [← h1, ← h2]
              rfl
            · obtain rfl : k = 1 := by omega
              have hm := HI.out.1 0 (by omega)
              rw [show dst d0 0 = d0 from rfl] at hm
              rw [show dst d0 1 = ⟨#[42]⟩ from rfl] at ha
              rw [hm, ha] at hh
              injection hh with h1 h2
              rw [← h1, ← h2]
              rfl
        · obtain rfl : k = 2 := by omega
          go_wp2
          go_ret2
          refine ⟨?_, hold.out.trans (HI.out.2.mono (Nat.le_succ _))⟩
          have hh := H.out
          have m0 := HI.out.1 0 (by omega)
          have m1 := HI.out.1 1 (by omega)
          rw [show dst d0 0 = d0 from rfl] at m0
          rw [show dst d0 1 = ⟨#[42]⟩ from rfl] at m1
          unfold hopTo at hh
          rw [m0, m1] at hh
          injection hh with h1 h2
          rw [← h1, ← h2]
          rfl
end Go.Proofs.YtaifpiknddgnmaaDoor.Hand
