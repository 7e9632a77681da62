/- dots.Good, dots.Size and dots.Stuff by contracts: what they return, for every list of lines whose sizes together stay below 2^62. -/
import Derived.Test.YtpplahmnlgokbaaShelf
import Derived.Test.YtpplahmnlgokbaaHandIdx
import Derived.Test.YtpplahmnlgokbaaHandBuilder
import Derived.Test.YtpplahmnlgokbaaDotsSpec
namespace Go.Proofs.Ytpplahmnlgokbaa.Hand
open Go.RowKit Go.Proofs.YtpplahmnlgokbaaW.PrintWords Go.Proofs.YtpplahmnlgokbaaW.PrintLast Go.Proofs.YtpplahmnlgokbaaW.PrintMore Go.Proofs.Ytpplahmnlgokbaa.Dots
set_option linter.unusedVariables false
set_option linter.unusedSimpArgs false

theorem dots_Good.calls (A0 : Option Addr) (c0 : Nat) (l0 : List ByteArray) (r : Bool) (w : World) (hr0 : Kd.C Kd.string w A0 l0.length l0) (hc0 : l0.length ≤ c0) (h : dots_Good.f l0 = some r) :
    Calls Try.prog 11 #[.slice A0 l0.length c0] w fun e w' => e = .returned (.bool r) ∧ Drawn0 w w' := by
  unfold dots_Good.f at h
  by_cases hz : sizeL l0 < 4611686018427387904
  · rw [if_pos hz] at h
    obtain ⟨K, hK⟩ := good_ev l0 hz
    exact PA.dots_Good.calls K A0 c0 l0 r w hr0 hc0 ((hK K (Nat.le_refl _)).trans h)
  · rw [if_neg hz] at h
    cases h
theorem dots_Size.calls (A0 : Option Addr) (c0 : Nat) (l0 : List ByteArray) (r : Int) (w : World) (hr0 : Kd.C Kd.string w A0 l0.length l0) (hc0 : l0.length ≤ c0) (h : dots_Size.f l0 = some r) :
    Calls Try.prog 12 #[.slice A0 l0.length c0] w fun e w' => e = .returned (.int .i64 r) ∧ Drawn0 w w' := by
  unfold dots_Size.f at h
  by_cases hz : sizeL l0 < 4611686018427387904
  · rw [if_pos hz] at h
    obtain ⟨K, hK⟩ := size_ev l0 hz
    exact PA.dots_Size.calls K A0 c0 l0 r w hr0 hc0 ((hK K (Nat.le_refl _)).trans h)
  · rw [if_neg hz] at h
    cases h

theorem strCells_bytes (s : ByteArray) : Lib.strCells s = Lib.byteCells s.data.toList := rfl
theorem byteCells_append (a b : List UInt8) : Lib.byteCells (a ++ b) = Lib.byteCells a ++ Lib.byteCells b := by unfold Lib.byteCells; rw [List.map_append]
theorem byteCells_len (a : List UInt8) : (Lib.byteCells a).length = a.length := by unfold Lib.byteCells; rw [List.length_map]
theorem prefix_dot (s : ByteArray) : Lib.hasPrefix s.data.toList [46] = true ↔ s.data.toList.head? = some 46 := by
  cases s.data.toList with
  | nil => simp [Lib.hasPrefix]
  | cons c l =>
    simp [Lib.hasPrefix]
    exact ⟨fun h => h.symm, fun h => h.symm⟩
theorem builder_fresh (B : Nat) (W : World) (hB : B ≤ W.heap.size) : Lib.IsBuilder 42 5 B W.heap.size [] (W.alloc (.cells #[.pointer none, .slice none 0 0] 42)) :=
  .inl ⟨hB, .slice none 0 0, (by show (W.heap.push _)[W.heap.size]? = _; simp), own_nil _ _ _ _, by simp [Value.ownBlock]⟩

set_option maxHeartbeats 8000000 in
set_option maxRecDepth 100000 in
theorem dots_Stuff.calls (A0 : Option Addr) (c0 : Nat) (l0 : List ByteArray) (r1 : ByteArray) (r2 : Int) (w : World) (hr0 : Kd.C Kd.string w A0 l0.length l0) (hc0 : l0.length ≤ c0) (h : dots_Stuff.f l0 = some (r1, r2)) :
    Calls Try.prog 9 #[.slice A0 l0.length c0] w fun e w' => e = .returned (.tuple #[.string r1, .int .i64 r2]) ∧ Below w.heap.size w w' := by
  unfold dots_Stuff.f at h
  by_cases hz : sizeL l0 < 4611686018427387904
  case neg => rw [if_neg hz] at h; cases h
  rw [if_pos hz] at h
  have HG := fun W hr => dots_Good.calls A0 c0 l0 (goodB l0) W hr hc0 (by unfold dots_Good.f; rw [if_pos hz])
  by_cases g : goodB l0 = true
  · rw [if_pos g] at h
    injection h with h
    injection h with h1 h2
    subst h1 h2
    rw [g] at HG
    have hlen : l0.length ≤ 32768 := good_len l0 g
    have hsz : sizeL l0 ≤ 65536 := by
      unfold goodB at g
      rw [Bool.and_eq_true] at g
      exact of_decide_eq_true g.2
    have HSZ := Aside0.mk hsz
    have HR := Aside0.mk hr0
    have HGG := Aside0.mk (HG w hr0)
    clear HG g hr0 hz hsz hc0
    go_enter Try.func9, Try.ntmps9
    go_wp2_with (go_at_call 11; refine (HGG.out).mono ?_; rintro e w' ⟨rfl, ⟨nd, rfl⟩⟩)
    clear HGG
    go_loopw [12] (fun v12 wr => ∃ k : Nat, v12 = .int .i64 k ∧ k ≤ l0.length ∧ Aside0 (Lib.IsBuilder 42 5 w.heap.size w.heap.size (Lib.byteCells (stuffL (l0.take k))) wr ∧ Below w.heap.size w wr)) (fun v12 _ => l0.length - (intOf v12).toNat)
    case atStart =>
      refine ⟨0, rfl, Nat.zero_le _, ⟨?_, ?_⟩⟩
      · have := builder_fresh w.heap.size (w.drewN nd) (Nat.le_refl _)
        first | exact this | simpa [stuffL, Lib.byteCells] using this
      · exact (pw_below_drewN (Below.refl _ w) nd).alloc (Nat.le_refl _) _
    case round =>
      obtain ⟨k, rfl, hk, HI⟩ := hrel
      by_cases hlt : k < l0.length
      · obtain ⟨ad, rfl, hx⟩ := Kd.at_string HR.out (k : Int) (by omega) (by omega)
        rw [rd_at l0 k hlt, Int.toNat_natCast] at hx
        have hxr : wr.cell? (ad.add k) = some (.string l0[k]) := pw_cell_below HI.out.2 hx
        have hs1 := stuffL_snoc l0 k hlt
        have hb1 : (stuffL (l0.take k)).length + (stuff1 l0[k]).length ≤ 200000 := by
          have h1 := stuffL_len (l0.take (k + 1))
          have h2 := sizeL_append (l0.take (k + 1)) (l0.drop (k + 1))
          rw [List.take_append_drop] at h2
          have h3 := HSZ.out
          rw [hs1, List.length_append] at h1
          have h4 : (l0.take (k + 1)).length ≤ 32768 := by rw [List.length_take]; omega
          omega
        clear hx
        obtain ⟨s, hs⟩ : ∃ s, s = l0[k] := ⟨_, rfl⟩
        rw [← hs] at hxr hs1 hb1
        have hsz1 : s.size ≤ (stuff1 s).length := by unfold stuff1; simp; omega
        have HS1 := Aside0.mk hs1
        clear hs1 hs
        generalize hP : stuffL (l0.take k) = P at *
        clear hP
        have hB := HI.out.2.size
        by_cases hd : Lib.hasPrefix s.data.toList [46] = true
        · have he : stuff1 s = [46] ++ s.data.toList ++ [13, 10] := by unfold stuff1; rw [if_pos ((prefix_dot s).1 hd)]
          have HE := Aside0.mk he
          clear he
          go_wp2_with (go_at_call 18; refine (Try.strings_HasPrefix s _ _).mono ?_; rintro e w' ⟨rfl, rfl⟩)
          refine (writeString_any w.heap.size w.heap.size (Lib.byteCells P) ⟨#[46]⟩ _ HI.out.1 (by rw [byteCells_len]; show P.length + 1 ≤ _; omega) hB).mono ?_
          rintro e w1 ⟨rfl, hI1, hb2⟩
          have HI1 := Aside0.mk hI1
          have HB1 := Aside0.mk (HI.out.2.trans hb2)
          clear hI1 hb2
          go_wp2_with fail
          refine (writeString_any w.heap.size w.heap.size _ _ w1 (.inr HI1.out) ?_ HB1.out.size).mono ?_
          · rw [List.length_append, byteCells_len, Lib.strCells_length, ByteArray.size_append]
            show P.length + 1 + (s.size + 2) ≤ _
            omega
          rintro e w2 ⟨rfl, hI2, hb3⟩
          have HI2 := Aside0.mk hI2
          have HB2 := Aside0.mk (HB1.out.trans hb3)
          clear hI2 hb3
          go_wp2
          go_roundw
          case rel =>
            refine ⟨k + 1, by go_num, by omega, ⟨.inr ?_, HB2.out⟩⟩
            rw [HS1.out, HE.out]
            have := HI2.out
            rw [strCells_bytes, strCells_bytes, ← byteCells_append, ← byteCells_append] at this
            rw [show P ++ ([46] ++ s.data.toList ++ [13, 10]) = P ++ [46] ++ (s ++ ⟨#[13, 10]⟩ : ByteArray).data.toList from by rw [ByteArray.data_append, Array.toList_append]; simp]
            exact this
          case measure => simp [intOf]; omega
        · have he : stuff1 s = s.data.toList ++ [13, 10] := by unfold stuff1; rw [if_neg (fun h => hd ((prefix_dot s).2 h))]; rfl
          have HE := Aside0.mk he
          clear he
          have hd' : Lib.hasPrefix s.data.toList [46] = false := by simpa using hd
          clear hd
          go_wp2_with (go_at_call 18; refine (Try.strings_HasPrefix s _ _).mono ?_; rintro e w' ⟨rfl, rfl⟩)
          refine (writeString_any w.heap.size w.heap.size (Lib.byteCells P) _ _ HI.out.1 ?_ hB).mono ?_
          · rw [byteCells_len, ByteArray.size_append]
            show P.length + (s.size + 2) ≤ _
            omega
          rintro e w2 ⟨rfl, hI2, hb3⟩
          have HI2 := Aside0.mk hI2
          have HB2 := Aside0.mk (HI.out.2.trans hb3)
          clear hI2 hb3
          go_wp2
          go_roundw
          case rel =>
            refine ⟨k + 1, by go_num, by omega, ⟨.inr ?_, HB2.out⟩⟩
            rw [HS1.out, HE.out]
            have := HI2.out
            rw [strCells_bytes, ← byteCells_append] at this
            rw [show P ++ (s.data.toList ++ [13, 10]) = P ++ (s ++ ⟨#[13, 10]⟩ : ByteArray).data.toList from by rw [ByteArray.data_append, Array.toList_append]]
            exact this
          case measure => simp [intOf]; omega
      · obtain rfl : k = l0.length := by omega
        have hP : (stuffL l0).length ≤ 200000 := by
          have := stuffL_len l0
          have h3 := HSZ.out
          omega
        have hI0 := HI.out.1
        rw [List.take_length] at hI0
        have HI0 := Aside0.mk hI0
        have HP := Aside0.mk hP
        have HB := Aside0.mk HI.out.2
        clear hI0 hP HI
        go_wp2_with fail
        refine (writeString_any w.heap.size w.heap.size _ _ _ HI0.out (by rw [byteCells_len]; have := HP.out; show _ + 3 ≤ _; omega) HB.out.size).mono ?_
        rintro e w1 ⟨rfl, hI1, hb2⟩
        have HI1 := Aside0.mk hI1
        have HB1 := Aside0.mk (HB.out.trans hb2)
        clear hI1 hb2
        go_wp2_with fail
        refine (Try.Builder_String_any w.heap.size w.heap.size (stuffed l0) w1 (.inr ?_) HB1.out.size).mono ?_
        · have := HI1.out
          rw [strCells_bytes, ← byteCells_append] at this
          exact this
        rintro e w2 ⟨rfl, hb3⟩
        have HB2 := Aside0.mk (HB1.out.trans hb3)
        clear hb3
        go_wp2
        go_ret2
        exact ⟨rfl, HB2.out⟩
  · rw [if_neg g] at h
    injection h with h
    injection h with h1 h2
    subst h1 h2
    have g' : goodB l0 = false := by simpa using g
    rw [g'] at HG
    have HGG := Aside0.mk (HG w hr0)
    clear HG g g' hr0 hz
    go_enter Try.func9, Try.ntmps9
    go_wp2_with (go_at_call 11; refine (HGG.out).mono ?_; rintro e w' ⟨rfl, ⟨nd, rfl⟩⟩)
    go_ret2
    exact ⟨rfl, pw_below_drewN (Below.refl _ w) nd⟩

end Go.Proofs.Ytpplahmnlgokbaa.Hand
