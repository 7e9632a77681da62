/- Upper of the document: as Lower (XHandLower). -/
import Derived.Test.YtpkeplifflnemaaDoorHandLower
namespace Go.Proofs.YtpkeplifflnemaaDoor.Hand
open Go.RowKit Go.Proofs.YtpkeplifflnemaaDoorW.PrintWords Go.Proofs.YtpkeplifflnemaaDoorW.PrintLast Go.Proofs.YtpkeplifflnemaaDoorW.PrintMore Go.Proofs.YtpkeplifflnemaaDoor.Addr
set_option linter.unusedVariables false
set_option linter.unusedSimpArgs false

theorem upper_lt (x : UInt8) : (97 ≤ x ∧ x ≤ 122 ∧ (upperB x).toNat = x.toNat - 32) ∨ (¬ (97 ≤ x ∧ x ≤ 122) ∧ upperB x = x) := by
  unfold upperB
  by_cases h : 97 ≤ x ∧ x ≤ 122
  · left
    refine ⟨h.1, h.2, ?_⟩
    rw [if_pos (by simp [h.1, h.2])]
    have h1 : (97 : UInt8).toNat ≤ x.toNat := h.1
    have e : (97 : UInt8).toNat = 97 := rfl
    exact UInt8.toNat_sub_of_le _ _ (by show (32 : UInt8).toNat ≤ x.toNat; have : (32 : UInt8).toNat = 32 := rfl; omega)
  · right
    refine ⟨h, if_neg ?_⟩
    simpa using h
def upp (l : List UInt8) (k : Nat) : List UInt8 := (l.take k).map upperB ++ l.drop k
theorem upp_len (l : List UInt8) (k : Nat) : (upp l k).length = l.length := by unfold upp; simp; omega
theorem upp_at (l : List UInt8) (k : Nat) (h : k < l.length) (h2 : k < (upp l k).length) : (upp l k)[k] = l[k] := by
  have : (upp l k)[k]? = l[k]? := by
    unfold upp
    rw [List.getElem?_append_right (by rw [List.length_map, List.length_take]; omega), List.length_map, List.length_take, List.getElem?_drop]
    congr 1
    omega
  rw [List.getElem?_eq_getElem h, List.getElem?_eq_getElem h2] at this
  exact Option.some.inj this
theorem upp_succ (l : List UInt8) (k : Nat) (h : k < l.length) : (upp l k).set k (upperB l[k]) = upp l (k + 1) := by
  unfold upp
  rw [List.set_append_right _ _ (by rw [List.length_map, List.length_take]; omega), List.drop_eq_getElem_cons h]
  have : k - ((l.take k).map upperB).length = 0 := by simp; omega
  rw [this, List.set_cons_zero, List.take_succ_eq_append_getElem h, List.map_append, List.append_assoc]
  rfl
theorem upp_keep (l : List UInt8) (k : Nat) (h : k < l.length) (hk : upperB l[k] = l[k]) : upp l (k + 1) = upp l k := by
  rw [← upp_succ l k h, hk]
  have h2 : k < (upp l k).length := by rw [upp_len]; exact h
  have := List.set_getElem_self h2
  rw [upp_at l k h h2] at this
  exact this
theorem upp_all (l : List UInt8) : upp l l.length = upperL l := by unfold upp upperL; simp
theorem upp_zero (l : List UInt8) : upp l 0 = l := by unfold upp; simp

def ref_Upper.f (s : ByteArray) : Option ByteArray := if s.size < 1000000000000 then some (mk (upperL s.data.toList)) else none
set_option maxHeartbeats 8000000 in
theorem ref_Upper.calls (s r : ByteArray) (w : World) (h : ref_Upper.f s = some r) :
    Calls Tryd.prog 16 #[.string s] w fun e w' => e = .returned (.string r) ∧ Below w.heap.size w w' := by
  unfold ref_Upper.f at h
  by_cases hs : s.size < 1000000000000
  case neg => rw [if_neg hs] at h; cases h
  rw [if_pos hs] at h
  obtain rfl := Option.some.inj h
  clear h
  have kc := fun w s => run_bytes_of_string (P := Tryd.prog) w 9 47 5 s Tryd.underlying9 Tryd.underlying47 Tryd.underlying5
  go_enter Tryd.func16, Tryd.ntmps16
  go_wp2
  generalize grownCap w s.size 0 5 = cap
  go_loopw [4] (fun v10 wr => ∃ k : Nat, v10 = .int .i64 k ∧ k ≤ s.size ∧ Aside0 (BRow wr w.heap.size 5 (upp s.data.toList k) ∧ Below w.heap.size w wr)) (fun v10 _ => s.size - (intOf v10).toNat)
  case atStart =>
    refine ⟨0, rfl, Nat.zero_le _, ⟨?_, ?_⟩⟩
    · rw [upp_zero]
      exact BRow.made w _ s cap
    · repeat (first | exact Below.refl _ _ | apply below_alloc | apply pw_below_drewN | apply below_drew1)
  case round =>
    obtain ⟨k, rfl, hk, HI⟩ := hrel
    by_cases hlt : k < s.size
    · have hlt2 : k < s.data.toList.length := by rw [size_list]; exact hlt
      have hlt3 : k < (upp s.data.toList k).length := by rw [upp_len]; exact hlt2
      obtain ⟨c, hc⟩ : ∃ c, c = s.data.toList[k] := ⟨_, rfl⟩
      have hx := HI.out.1.cell k hlt3
      rw [upp_at _ k hlt2 hlt3, ← hc] at hx
      have hf := HI.out.1.frozen k hlt3
      have HC := Aside0.mk hc
      clear hc
      have hgs := HI.out.2.size
      rcases upper_lt c with ⟨h1, h2, h3⟩ | ⟨h1, h2⟩
      · have h1' : 97 ≤ (c.toNat : Int) := by have : (97 : UInt8).toNat ≤ c.toNat := h1; have e : (97 : UInt8).toNat = 97 := rfl; omega
        have h2' : (c.toNat : Int) ≤ 122 := by have : c.toNat ≤ (122 : UInt8).toNat := h2; have e : (122 : UInt8).toNat = 122 := rfl; omega
        clear h1 h2
        go_wp2
        go_roundw
        case rel =>
          refine ⟨k + 1, by go_num, by omega, ⟨?_, below_set HI.out.2 (Nat.le_refl _)⟩⟩
          have hs1 := upp_succ s.data.toList k hlt2
          rw [← HC.out] at hs1
          rw [← hs1]
          exact HI.out.1.set k hlt3 (upperB c) _ (by rw [h3]; congr 1 <;> omega)
        case measure => simp [intOf]; omega
      · have h1' : ¬ (97 ≤ (c.toNat : Int) ∧ (c.toNat : Int) ≤ 122) := fun h => h1 ⟨by show (97 : UInt8).toNat ≤ c.toNat; have e : (97 : UInt8).toNat = 97 := rfl; omega, by show c.toNat ≤ (122 : UInt8).toNat; have e : (122 : UInt8).toNat = 122 := rfl; omega⟩
        clear h1
        by_cases h97 : 97 ≤ (c.toNat : Int)
        · have h122 : ¬ (c.toNat : Int) ≤ 122 := fun h => h1' ⟨h97, h⟩
          clear h1'
          go_wp2
          go_roundw
          case rel => exact ⟨k + 1, by go_num, by omega, ⟨by rw [upp_keep s.data.toList k hlt2 (by rw [← HC.out]; exact h2)]; exact HI.out.1, HI.out.2⟩⟩
          case measure => simp [intOf]; omega
        · clear h1'
          go_wp2
          go_roundw
          case rel => exact ⟨k + 1, by go_num, by omega, ⟨by rw [upp_keep s.data.toList k hlt2 (by rw [← HC.out]; exact h2)]; exact HI.out.1, HI.out.2⟩⟩
          case measure => simp [intOf]; omega
    · obtain rfl : k = s.size := by omega
      have hcv := run_convert_bytes_back (P := Tryd.prog) wr 47 9 5 ⟨w.heap.size, 0, none⟩ cap (upp s.data.toList s.size) Tryd.underlying47 Tryd.underlying5 Tryd.underlying9 (fun j hj => by
        rw [Addr.add_lit, Nat.zero_add]
        exact HI.out.1.cell j hj)
      rw [upp_len, size_list] at hcv
      go_wp2
      go_ret
      refine ⟨?_, HI.out.2⟩
      have := upp_all s.data.toList
      rw [size_list] at this
      rw [this]
      rfl
end Go.Proofs.YtpkeplifflnemaaDoor.Hand
