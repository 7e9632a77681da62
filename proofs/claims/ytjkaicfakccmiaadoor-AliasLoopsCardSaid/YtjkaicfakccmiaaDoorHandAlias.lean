/- alias.opener over memory: the aliases that are read, slices.IndexFunc over them with open's closure. -/
import Derived.Test.YtjkaicfakccmiaaDoorAddrEv
import Derived.Test.YtjkaicfakccmiaaDoorPCt
import Derived.Test.YtjkaicfakccmiaaDoorWMore
import Derived.Test.YtjkaicfakccmiaaDoorWLast
import Derived.WalkKit
import Derived.ProofKit
namespace Go.Proofs.YtjkaicfakccmiaaDoor.Hand
open Go.RowKit Go.Proofs.YtjkaicfakccmiaaDoorW.PrintWords Go.Proofs.YtjkaicfakccmiaaDoorW.PrintLast Go.Proofs.YtjkaicfakccmiaaDoorW.PrintMore Go.Proofs.YtjkaicfakccmiaaDoor.Addr
set_option linter.unusedVariables false
set_option linter.unusedSimpArgs false

abbrev AliasS := Go.Proofs.YtjkaicfakccmiaaDoor.PC.S31
abbrev zAlias : AliasS := Go.Proofs.YtjkaicfakccmiaaDoor.PC.z31
abbrev kAlias : Kd AliasS := Go.Proofs.YtjkaicfakccmiaaDoor.PC.k31
theorem kAlias_open {w : World} {x : AliasS} {cs : List Value} (h : kAlias.K w x cs) : ∃ A1 c1, cs = [.string x.f0, .slice A1 x.f1.length c1] ∧ x.f1.length ≤ c1 ∧ Kd.string.C w A1 x.f1.length x.f1 := by
  obtain ⟨_, _, rfl, rfl, ⟨A1, c1, rfl, l1, g1⟩⟩ := h
  exact ⟨A1, c1, rfl, l1, g1⟩
theorem kAlias_openM {w : World} {base : Nat} {ok : Nat → Prop} {x : AliasS} {cs : List Value} (h : kAlias.M w base ok x cs) : ∃ v1, cs = [.string x.f0, v1] ∧ Kd.string.R 9 w base ok v1 x.f1 := by
  obtain ⟨_, _, rfl, rfl, ⟨v1, rfl, g1⟩⟩ := h
  exact ⟨v1, rfl, g1⟩
theorem kAlias_mk (w : World) (x : AliasS) {A1 : Option Addr} {c1 : Nat} (l1 : x.f1.length ≤ c1) (g1 : Kd.string.C w A1 x.f1.length x.f1) : kAlias.K w x [.string x.f0, .slice A1 x.f1.length c1] := ⟨[.string x.f0], [.slice A1 x.f1.length c1], rfl, rfl, ⟨A1, c1, rfl, l1, g1⟩⟩
theorem kAlias_mkM (w : World) (base : Nat) (ok : Nat → Prop) (x : AliasS) {v1 : Value} (g1 : Kd.string.R 9 w base ok v1 x.f1) : kAlias.M w base ok x [.string x.f0, v1] := ⟨[.string x.f0], [v1], rfl, rfl, ⟨v1, rfl, g1⟩⟩
def rd_al (xs : List AliasS) (i : Int) : AliasS := xs.getD i.toNat zAlias
theorem at_al {w : World} {A : Option Addr} {n : Nat} {xs : List AliasS} (h : Kd.C kAlias w A n xs) (i : Int) (h0 : 0 ≤ i) (h1 : i < n) : ∃ ad A1 c1, A = some ad ∧ w.cell? (ad.add (i.toNat * 2)) = some (.string (rd_al xs i).f0) ∧ w.cell? ⟨(ad.add (i.toNat * 2)).block, (ad.add (i.toNat * 2)).off + 1, none⟩ = some (.slice A1 (rd_al xs i).f1.length c1) ∧ (rd_al xs i).f1.length ≤ c1 ∧ Kd.string.C w A1 (rd_al xs i).f1.length (rd_al xs i).f1 := by
  obtain ⟨ad, c, e, _, hK, hc0⟩ := Kd.C_get h zAlias i h0 h1
  have hc : ∀ j u, c[j]? = some u → w.cell? (ad.add (i.toNat * 2 + j)) = some u := hc0
  obtain ⟨A1, c1, rfl, l1, g1⟩ := kAlias_open hK
  exact ⟨ad, A1, c1, e, hc 0 _ rfl, by rw [← add_field _ _ 1 (by omega)]; exact hc 1 _ rfl, l1, g1⟩

/-- Where the first alias of a name stands. -/
def alAt (d : ByteArray) : List AliasS → Option Nat
  | [] => none
  | h :: l => if h.f0 = d then some 0 else (alAt d l).map (· + 1)

def alIdx (d : ByteArray) (l : List AliasS) : Int := match alAt d l with
  | some i => (i : Int)
  | none => -1
theorem str_eqb (a b : ByteArray) : (a.toList == b.toList) = decide (a = b) := by
  rw [Bool.eq_iff_iff, beq_iff_eq, decide_eq_true_iff, Lib.toList_data, Lib.toList_data]
  exact ⟨fun h => ByteArray.ext (Array.toList_inj.1 h), fun h => by rw [h]⟩
theorem alAt_app (d : ByteArray) (a : List AliasS) (b : List AliasS) (h : alAt d a = none) : alAt d (a ++ b) = (alAt d b).map (· + a.length) := by
  induction a with
  | nil =>
    rw [List.nil_append]
    cases alAt d b <;> rfl
  | cons x a ih =>
    rw [List.cons_append, alAt]
    rw [alAt] at h
    by_cases e : x.f0 = d
    · rw [if_pos e] at h
      cases h
    · rw [if_neg e] at h ⊢
      rw [ih (by simpa using h), Option.map_map, List.length_cons]
      congr 1
theorem alAt_hit (d : ByteArray) (l : List AliasS) (k : Nat) (hk : k < l.length) (h : alAt d (l.take k) = none) (he : l[k].f0 = d) : alAt d l = some k := by
  have e := List.take_append_drop k l
  rw [← e, alAt_app d _ _ h, List.drop_eq_getElem_cons hk, alAt, if_pos he, Option.map_some, List.length_take, Nat.min_eq_left (Nat.le_of_lt hk), Nat.zero_add]
theorem alAt_miss (d : ByteArray) (l : List AliasS) (k : Nat) (hk : k < l.length) (h : alAt d (l.take k) = none) (he : ¬ l[k].f0 = d) : alAt d (l.take (k + 1)) = none := by
  rw [List.take_succ_eq_append_getElem hk, alAt_app d _ _ h, alAt, if_neg he]
  rfl
theorem rd_alias (l : List AliasS) (k : Nat) (hk : k < l.length) : rd_al l (k : Int) = l[k] := by
  unfold rd_al
  rw [Int.toNat_natCast, List.getD_eq_getElem?_getD, List.getElem?_eq_getElem hk]
  rfl
set_option maxHeartbeats 4000000 in
theorem al1_calls (h : AliasS) (A1 : Option Addr) (c1 : Nat) (g : Addr) (d : ByteArray) (w : World) (hd : w.cell? g = some (.string d)) :
    Calls Tryd.prog 20 #[.agg #[.string h.f0, .slice A1 h.f1.length c1], .pointer (some g)] w fun e w' => e = .returned (.bool (decide (h.f0 = d))) ∧ Below w.heap.size w w' := by
  have hg := World.block_lt_of_cell? w _ hd
  go_enter Tryd.func20, Tryd.ntmps20
  go_wp2
  go_ret
  exact ⟨by rw [str_eqb]; rfl, (Below.refl _ _).alloc (Nat.le_refl _) _⟩
set_option maxHeartbeats 4000000 in
theorem index_alias (A : Option Addr) (c : Nat) (l : List AliasS) (g : Addr) (d : ByteArray) (w : World) (hr : Kd.C kAlias w A l.length l) (hc : l.length ≤ c) (hll : l.length < 1000000000001) (hd : w.cell? g = some (.string d)) :
    Calls Tryd.prog 19 #[.slice A l.length c, .func (.func 20) #[] #[.pointer (some g)]] w fun e w' => e = .returned (.int .i64 (alIdx d l)) ∧ Below w.heap.size w w' := by
  have HR := Aside0.mk hr
  have HD := Aside0.mk hd
  clear hr hd
  go_enter Tryd.func19, Tryd.ntmps19
  go_wp2
  go_loopw [8] (fun v8 wr => ∃ k : Nat, v8 = .int .i64 k ∧ k ≤ l.length ∧ Aside0 (alAt d (l.take k) = none ∧ Below w.heap.size w wr)) (fun v8 _ => l.length - (intOf v8).toNat)
  case atStart => exact ⟨0, rfl, Nat.zero_le _, ⟨rfl, Below.refl _ _⟩⟩
  case round =>
    obtain ⟨k, rfl, hk, HI⟩ := hrel
    by_cases hlt : k < l.length
    · obtain ⟨ad, A1, c1, rfl, hx0, hx1, _, _⟩ := at_al HR.out (k : Int) (by omega) (by omega)
      rw [Int.toNat_natCast] at hx0 hx1
      have hx0r := pw_cell_below HI.out.2 hx0
      have hx1r := pw_cell_below HI.out.2 hx1
      have hdr := pw_cell_below HI.out.2 HD.out
      clear hx0 hx1
      obtain ⟨h, hh⟩ : ∃ h, h = rd_al l (k : Int) := ⟨_, rfl⟩
      rw [← hh] at hx0r hx1r
      have HH := Aside0.mk hh
      clear hh
      go_wp2_with fail
      refine (al1_calls h A1 c1 g d wr hdr).mono ?_
      rintro e w1 ⟨rfl, hb1⟩
      have HB := Aside0.mk (HI.out.2.trans (hb1.mono HI.out.2.size))
      clear hb1
      by_cases hb : h.f0 = d
      · have hb' : decide (h.f0 = d) = true := decide_eq_true hb
        have HE := Aside0.mk hb
        clear hb
        go_wp2
        go_ret
        refine ⟨?_, HB.out⟩
        have := alAt_hit d l k hlt HI.out.1 (by rw [← rd_alias l k hlt, ← HH.out]; exact HE.out)
        unfold alIdx
        rw [this]
        rfl
      · have hb' : decide (h.f0 = d) = false := decide_eq_false hb
        have HE := Aside0.mk hb
        clear hb
        go_wp2
        go_roundw
        case rel =>
          refine ⟨k + 1, by go_num, by omega, ⟨?_, HB.out⟩⟩
          exact alAt_miss d l k hlt HI.out.1 (by rw [← rd_alias l k hlt, ← HH.out]; exact HE.out)
        case measure => simp [intOf]; omega
    · obtain rfl : k = l.length := by omega
      go_wp2
      go_ret
      refine ⟨?_, HI.out.2⟩
      have h1 := HI.out.1
      rw [List.take_length] at h1
      unfold alIdx
      rw [h1]
      rfl

end Go.Proofs.YtjkaicfakccmiaaDoor.Hand
