/- DiskSure, walked by hand. -/
import Derived.Test.YtiiomookhjpblaaDiskPlain
namespace Go.Proofs.Ytiiomookhjpblaa.Hand
open Go.RowKit Go.Maps Go.Proofs.YtiiomookhjpblaaW.PrintWords Go.Proofs.YtiiomookhjpblaaW.PrintLast Go.Proofs.YtiiomookhjpblaaW.PrintMore
set_option linter.unusedVariables false
set_option linter.unusedSimpArgs false
def nF : ByteArray := ⟨#[102]⟩
def nG : ByteArray := ⟨#[103]⟩
theorem nF_size : nF.size ≤ maxLen := by unfold maxLen; decide
theorem nG_size : nG.size ≤ maxLen := by unfold maxLen; decide
theorem nF_good : goodName nF = true := by decide +kernel
theorem nG_good : goodName nG = true := by decide +kernel
theorem szF : nF.size ≤ 32 ∧ (⟨#[]⟩ : ByteArray).size ≤ 32 := by decide +kernel
theorem szG : nF.size ≤ 32 ∧ nG.size ≤ 32 := by decide +kernel
def wF (b : By) : Wr := ⟨0, nF, ⟨#[]⟩, b⟩
def rFG : Wr := ⟨1, nF, nG, []⟩
theorem wF_nil (x : By) : doW [] (wF x) = [(nF, x)] := rfl
theorem wF_one (x y : By) : doW [(nF, x)] (wF y) = [(nF, x ++ y)] := rfl
theorem rFG_one (x : By) : doW [(nF, x)] rFG = [(nG, x)] := rfl
theorem sure_ok (f : Fs) (l : List Wr) (n : Int) (h1 : f.length ≤ 2) (h2 : l.length ≤ 2) (h3 : used f + looseB l ≤ 3000) (h4 : ∀ p ∈ f, p.1 = nF ∨ p.1 = nG) (h5 : ∀ w ∈ l, (w.frm = nF ∧ w.onto = ⟨#[]⟩) ∨ w = rFG) : (dS f l n).Ok :=
  dS_ok (by unfold maxN; omega) (by unfold maxN; omega) (by unfold maxB; omega) (fun p hp => by rcases h4 p hp with e | e <;> rw [e] <;> decide +kernel) (fun w hw => by
    rcases h5 w hw with ⟨e1, e2⟩ | e
    · rw [e1, e2]; exact szF
    · rw [e]; exact szG)
theorem mkS_app (a b : By) : mkS a ++ mkS b = mkS (a ++ b) := by
  unfold mkS
  apply ByteArray.ext
  apply Array.toList_inj.1
  simp [ByteArray.data_append]
theorem Dk.read2 {w : World} {base p : Nat} {st : DSt} {r : Int} (h : Dk w base p st) (hok : st.Ok) (s : ByteArray) (hs : s.size ≤ maxLen) {b : By} (hr : readR st s = r) (hb : readB st s = b) :
    Calls Try.prog 11 #[.pointer (some ⟨p, 0, none⟩), .string s] w fun e w' => ∃ A c, e = .returned (.tuple #[.slice A b.length c, .int .i64 r]) ∧ CB w' A b ∧ Dk w' base p st ∧ Below w.heap.size w w' := by
  subst hr hb
  refine (h.1.read hok s hs).mono fun e w' ⟨v, h1, h2, h3⟩ => ?_
  obtain ⟨A, c, rfl, _, hC⟩ := RB_slice h2
  exact ⟨A, c, h1, hC, h.below h3, h3⟩
theorem extract_str (a b : By) (m : Nat) : (mkS (a ++ b)).extract 0 (a.length + m) = mkS (a ++ b.take m) := by
  unfold mkS
  apply ByteArray.ext
  apply Array.toList_inj.1
  rw [ByteArray.data_extract]
  simp [List.take_append]
  exact List.take_of_length_le (by omega)
/-- What is there behind the crash. -/
def left (a b : By) (keep torn : Int) : Fs := if 2 ≤ keep then [(nG, a ++ b)] else if keep = 1 then [(nF, a ++ b)] else [(nF, a ++ b.take torn.toNat)]
theorem crash_left (a b : By) (keep torn : Int) : crashS (dS [(nF, a)] [wF b, rFG] 1000) keep torn = dS (left a b keep torn) [] 1000 := by
  have hf : crashF (dS [(nF, a)] [wF b, rFG] 1000) keep torn = left a b keep torn := by
    unfold left
    by_cases h2 : 2 ≤ keep
    · rw [if_pos h2]
      have hk : keepN (dS [(nF, a)] [wF b, rFG] 1000) keep = 2 := by
        unfold keepN
        show (if keep < 0 then 0 else if ((2 : Nat) : Int) < keep then 2 else keep.toNat) = 2
        rw [if_neg (by omega)]
        split <;> omega
      unfold crashF
      rw [hk]
      rfl
    · rw [if_neg h2]
      by_cases h1 : keep = 1
      · rw [if_pos h1]
        have hk : keepN (dS [(nF, a)] [wF b, rFG] 1000) keep = 1 := by subst h1; rfl
        unfold crashF
        rw [hk]
        show (if rFG.kind = 0 ∧ 0 ≤ torn then _ else _) = _
        rw [if_neg (fun h => absurd h.1 (by decide))]
        rfl
      · rw [if_neg h1]
        have hk : keepN (dS [(nF, a)] [wF b, rFG] 1000) keep = 0 := by
          unfold keepN
          show (if keep < 0 then 0 else if ((2 : Nat) : Int) < keep then 2 else keep.toNat) = 0
          split
          · rfl
          · rw [if_neg (by omega)]
            omega
        unfold crashF
        rw [hk]
        show (if (wF b).kind = 0 ∧ 0 ≤ torn then _ else _) = _
        by_cases ht : 0 ≤ torn
        · rw [if_pos ⟨rfl, ht⟩]
          rfl
        · rw [if_neg (fun h => ht h.2)]
          have : torn.toNat = 0 := by omega
          rw [this, List.take_zero]
          show [(nF, a)] = [(nF, a ++ [])]
          rw [List.append_nil]
  unfold crashS dS
  rw [show (⟨[(nF, a)], [wF b, rFG], 1000, -1, false⟩ : DSt) = dS [(nF, a)] [wF b, rFG] 1000 from rfl, hf]
  rfl
theorem left_ok (a b : By) (keep torn : Int) (ha : a.length ≤ 100) (hb : b.length ≤ 100) : (dS (left a b keep torn) [] 1000).Ok := by
  unfold left
  split
  · refine sure_ok _ _ _ (by simp) (by simp) ?_ (fun p hp => by rw [List.mem_singleton.1 hp]; exact .inr rfl) (fun _ h => by cases h)
    show (a ++ b).length + 0 + 0 ≤ _
    rw [List.length_append]; omega
  · split
    · refine sure_ok _ _ _ (by simp) (by simp) ?_ (fun p hp => by rw [List.mem_singleton.1 hp]; exact .inl rfl) (fun _ h => by cases h)
      show (a ++ b).length + 0 + 0 ≤ _
      rw [List.length_append]; omega
    · refine sure_ok _ _ _ (by simp) (by simp) ?_ (fun p hp => by rw [List.mem_singleton.1 hp]; exact .inl rfl) (fun _ h => by cases h)
      show (a ++ b.take torn.toNat).length + 0 + 0 ≤ _
      rw [List.length_append, List.length_take]; omega

set_option maxRecDepth 100000 in
set_option maxHeartbeats 8000000 in
theorem DiskSure_far (keep torn : Int) (A B : Option Addr) (c d : Nat) (a b : By) (w : World) (h : 100 < a.length ∨ 100 < b.length) :
    Calls Try.prog 5 #[.slice A a.length c, .slice B b.length d, .int .i64 keep, .int .i64 torn] w fun e w' => e = .returned (.bool true) ∧ Below w.heap.size w w' := by
  by_cases ha : 100 < a.length
  · have h1 : decide (100 < (a.length : Int)) = true := decide_eq_true (by omega)
    clear h ha
    go_enter Try.func5, Try.ntmps5
    go_wp2_with fail
    refine (answers_calls _).mono ?_
    rintro e w1 ⟨rfl, hB1⟩
    have HB1 := Aside0.mk hB1
    clear hB1
    go_wp2
    go_ret
    exact ⟨rfl, HB1.out⟩
  · have h1 : decide (100 < (a.length : Int)) = false := decide_eq_false (by omega)
    have h2 : decide (100 < (b.length : Int)) = true := decide_eq_true (by omega)
    clear h ha
    go_enter Try.func5, Try.ntmps5
    go_wp2_with fail
    refine (answers_calls _).mono ?_
    rintro e w1 ⟨rfl, hB1⟩
    have HB1 := Aside0.mk hB1
    clear hB1
    go_wp2
    go_ret
    exact ⟨rfl, HB1.out⟩
set_option maxRecDepth 100000 in
set_option maxHeartbeats 8000000 in
theorem DiskSure_g (keep torn : Int) (A B : Option Addr) (c d : Nat) (a b : By) (w : World) (hca : CB w A a) (hcb : CB w B b) (ha : a.length ≤ 100) (hb : b.length ≤ 100) (hk : 2 ≤ keep) :
    Calls Try.prog 5 #[.slice A a.length c, .slice B b.length d, .int .i64 keep, .int .i64 torn] w fun e w' => e = .returned (.bool true) ∧ Below w.heap.size w w' := by
  have hlf : left a b keep torn = [(nG, a ++ b)] := by unfold left; rw [if_pos hk]
  have hcr := crash_left a b keep torn
  rw [hlf] at hcr
  have hok := left_ok a b keep torn ha hb
  rw [hlf] at hok
  have HNW := Aside0.mk (New_dk w 1000)
  rw [dS_new (by omega)] at HNW
  have e1 : appendR (dS [] [] 1000) nF a.length = 0 ∧ appendS (dS [] [] 1000) nF a = dS [] [wF a] 1000 := dS_app nF_good (full_no (.inr (by decide)) (by show ((0 : Nat) : Int) + _ ≤ _; omega))
  have e2 : syncS (dS [] [wF a] 1000) = dS [(nF, a)] [] 1000 := rfl
  have e3 : appendR (dS [(nF, a)] [] 1000) nF b.length = 0 ∧ appendS (dS [(nF, a)] [] 1000) nF b = dS [(nF, a)] [wF b] 1000 := dS_app nF_good (full_no (.inr (by show 1 < 16; omega)) (by show ((a.length + 0 : Nat) : Int) + _ ≤ _; omega))
  have e4 : renameR (dS [(nF, a)] [wF b] 1000) nF nG = 0 ∧ renameS (dS [(nF, a)] [wF b] 1000) nF nG = dS [(nF, a)] [wF b, rFG] 1000 := dS_ren nF_good nG_good rfl
  have e5 : readR (dS [(nG, a ++ b)] [] 1000) nF = 3 ∧ readB (dS [(nG, a ++ b)] [] 1000) nF = [] := dS_read nF_good
  have e6 : readR (dS [(nG, a ++ b)] [] 1000) nG = 0 ∧ readB (dS [(nG, a ++ b)] [] 1000) nG = a ++ b := dS_read nG_good
  have o1 := sure_ok [] [wF a] 1000 (by simp) (by simp) (by show 0 + (a.length + 0) ≤ _; omega) (fun _ h => by cases h) (fun w hw => .inl (by rw [List.mem_singleton.1 hw]; exact ⟨rfl, rfl⟩))
  have o2 := sure_ok [(nF, a)] [] 1000 (by simp) (by simp) (by show a.length + 0 + 0 ≤ _; omega) (fun p hp => .inl (by rw [List.mem_singleton.1 hp])) (fun _ h => by cases h)
  have o3 := sure_ok [(nF, a)] [wF b] 1000 (by simp) (by simp) (by show a.length + 0 + (b.length + 0) ≤ _; omega) (fun p hp => .inl (by rw [List.mem_singleton.1 hp])) (fun w hw => .inl (by rw [List.mem_singleton.1 hw]; exact ⟨rfl, rfl⟩))
  have o4 := sure_ok [(nF, a)] [wF b, rFG] 1000 (by simp) (by simp) (by show a.length + 0 + (b.length + (0 + 0)) ≤ _; omega) (fun p hp => .inl (by rw [List.mem_singleton.1 hp])) (fun w hw => by rcases List.mem_cons.1 hw with e | e; exact .inl (by rw [e]; exact ⟨rfl, rfl⟩); exact .inr (List.mem_singleton.1 e))
  have hap := mkS_app a b
  have hzs : (mkS a).size + (mkS b).size ≤ 9223372036854775807 := by show a.toArray.size + b.toArray.size ≤ _; simp; omega
  have E1 := Aside0.mk e1
  have E2 := Aside0.mk e2
  have E3 := Aside0.mk e3
  have E4 := Aside0.mk e4
  have E5 := Aside0.mk e5
  have E6 := Aside0.mk e6
  have O1 := Aside0.mk o1
  have O2 := Aside0.mk o2
  have O3 := Aside0.mk o3
  have O4 := Aside0.mk o4
  have HCR := Aside0.mk hcr
  have HOK := Aside0.mk hok
  have HCA := Aside0.mk hca
  have HCB := Aside0.mk hcb
  have hk2 : decide (2 ≤ keep) = true := decide_eq_true hk
  have h1 : decide (100 < (a.length : Int)) = false := decide_eq_false (by omega)
  have h2 : decide (100 < (b.length : Int)) = false := decide_eq_false (by omega)
  clear e1 e2 e3 e4 e5 e6 o1 o2 o3 o4 hcr hok hca hcb hlf
  go_enter Try.func5, Try.ntmps5
  go_wp2_with fail
  refine HNW.out.mono ?_
  rintro e w1 ⟨p, rfl, hD1, hB1⟩
  have HB := Aside0.mk hB1
  have HT := Aside0.mk (hD1.app (newS_ok 1000 |> fun h => by rw [dS_new (by omega)] at h; exact h) nF nF_size A c a (Kd.C_below HCA.out hB1) (by unfold maxB; omega) E1.out.1 E1.out.2)
  clear hD1 hB1
  go_wp2_with fail
  refine HT.out.mono ?_
  rintro e w2 ⟨rfl, hD2, hB2⟩
  replace HB := Aside0.mk (HB.out.trans hB2)
  replace HT := Aside0.mk (hD2.syn O1.out dS_doneR E2.out)
  clear hD2 hB2
  go_wp2_with fail
  refine HT.out.mono ?_
  rintro e w3 ⟨rfl, hD3, hB3⟩
  replace HB := Aside0.mk (HB.out.trans hB3)
  replace HT := Aside0.mk (hD3.app O2.out nF nF_size B d b (Kd.C_below HCB.out HB.out) (by unfold maxB; omega) E3.out.1 E3.out.2)
  clear hD3 hB3
  go_wp2_with fail
  refine HT.out.mono ?_
  rintro e w4 ⟨rfl, hD4, hB4⟩
  replace HB := Aside0.mk (HB.out.trans hB4)
  replace HT := Aside0.mk (hD4.ren O3.out nF nG nF_size nG_size E4.out.1 E4.out.2)
  clear hD4 hB4
  go_wp2_with fail
  refine HT.out.mono ?_
  rintro e w5 ⟨rfl, hD5, hB5⟩
  replace HB := Aside0.mk (HB.out.trans hB5)
  replace HT := Aside0.mk (hD5.crash O4.out keep torn HCR.out)
  clear hD5 hB5
  go_wp2_with fail
  refine HT.out.mono ?_
  rintro e w6 ⟨rfl, hD6, hB6⟩
  replace HB := Aside0.mk (HB.out.trans hB6)
  replace HT := Aside0.mk (hD6.read2 HOK.out nF nF_size E5.out.1 E5.out.2)
  clear hD6 hB6
  have HW6 := Aside0.mk (show w.heap.size ≤ w6.heap.size from HB.out.size)
  go_wp2_with fail
  refine HT.out.mono ?_
  rintro e w7 ⟨A7, c7, rfl, hC7, hD7, hB7⟩
  replace HB := Aside0.mk (HB.out.trans (hB7.mono HB.out.size))
  have HC7 := Aside0.mk hC7
  replace HT := Aside0.mk (hD7.read2 HOK.out nG nG_size E6.out.1 E6.out.2)
  have HBq7 := Aside0.mk hB7
  have HW7 := Aside0.mk (show w.heap.size ≤ w7.heap.size from hD7.2)
  clear hC7 hD7 hB7
  go_wp2_with fail
  refine HT.out.mono ?_
  rintro e w8 ⟨A8, c8, rfl, hC8, hD8, hB8⟩
  replace HB := Aside0.mk (HB.out.trans (hB8.mono HB.out.size))
  have HC8 := Aside0.mk hC8
  have HBq8 := Aside0.mk hB8
  have hsa : (convert 27 9 (.slice A a.length c)).run Try.prog w8 = .ok (.string (mkS a)) w8 := to_string (Kd.C_below HCA.out HB.out) c
  have hsb : (convert 27 9 (.slice B b.length d)).run Try.prog w8 = .ok (.string (mkS b)) w8 := to_string (Kd.C_below HCB.out HB.out) d
  clear hC8 hD8 hB8
  go_wp2_with fail
  refine (answers_calls _).mono ?_
  rintro e w20 ⟨rfl, hB20⟩
  replace HB := Aside0.mk (HB.out.trans (hB20.mono HB.out.size))
  have hs20 : (convert 27 9 (.slice A8 (a ++ b).length c8)).run Try.prog w20 = .ok (.string (mkS (a ++ b))) w20 := to_string (Kd.C_below HC8.out hB20) c8
  rw [List.length_append] at hs20
  clear hB20
  go_wp2
  go_ret
  exact ⟨rfl, HB.out⟩
set_option maxRecDepth 100000 in
set_option maxHeartbeats 8000000 in
theorem DiskSure_f (keep torn : Int) (A B : Option Addr) (c d : Nat) (a b : By) (w : World) (hca : CB w A a) (hcb : CB w B b) (ha : a.length ≤ 100) (hb : b.length ≤ 100) (hk : keep = 1) :
    Calls Try.prog 5 #[.slice A a.length c, .slice B b.length d, .int .i64 keep, .int .i64 torn] w fun e w' => e = .returned (.bool true) ∧ Below w.heap.size w w' := by
  have hlf : left a b keep torn = [(nF, a ++ b)] := by unfold left; rw [if_neg (by omega), if_pos hk]
  have hcr := crash_left a b keep torn
  rw [hlf] at hcr
  have hok := left_ok a b keep torn ha hb
  rw [hlf] at hok
  have HNW := Aside0.mk (New_dk w 1000)
  rw [dS_new (by omega)] at HNW
  have e1 : appendR (dS [] [] 1000) nF a.length = 0 ∧ appendS (dS [] [] 1000) nF a = dS [] [wF a] 1000 := dS_app nF_good (full_no (.inr (by decide)) (by show ((0 : Nat) : Int) + _ ≤ _; omega))
  have e2 : syncS (dS [] [wF a] 1000) = dS [(nF, a)] [] 1000 := rfl
  have e3 : appendR (dS [(nF, a)] [] 1000) nF b.length = 0 ∧ appendS (dS [(nF, a)] [] 1000) nF b = dS [(nF, a)] [wF b] 1000 := dS_app nF_good (full_no (.inr (by show 1 < 16; omega)) (by show ((a.length + 0 : Nat) : Int) + _ ≤ _; omega))
  have e4 : renameR (dS [(nF, a)] [wF b] 1000) nF nG = 0 ∧ renameS (dS [(nF, a)] [wF b] 1000) nF nG = dS [(nF, a)] [wF b, rFG] 1000 := dS_ren nF_good nG_good rfl
  have e5 : readR (dS [(nF, a ++ b)] [] 1000) nF = 0 ∧ readB (dS [(nF, a ++ b)] [] 1000) nF = a ++ b := dS_read nF_good
  have e6 : readR (dS [(nF, a ++ b)] [] 1000) nG = 3 ∧ readB (dS [(nF, a ++ b)] [] 1000) nG = [] := dS_read nG_good
  have o1 := sure_ok [] [wF a] 1000 (by simp) (by simp) (by show 0 + (a.length + 0) ≤ _; omega) (fun _ h => by cases h) (fun w hw => .inl (by rw [List.mem_singleton.1 hw]; exact ⟨rfl, rfl⟩))
  have o2 := sure_ok [(nF, a)] [] 1000 (by simp) (by simp) (by show a.length + 0 + 0 ≤ _; omega) (fun p hp => .inl (by rw [List.mem_singleton.1 hp])) (fun _ h => by cases h)
  have o3 := sure_ok [(nF, a)] [wF b] 1000 (by simp) (by simp) (by show a.length + 0 + (b.length + 0) ≤ _; omega) (fun p hp => .inl (by rw [List.mem_singleton.1 hp])) (fun w hw => .inl (by rw [List.mem_singleton.1 hw]; exact ⟨rfl, rfl⟩))
  have o4 := sure_ok [(nF, a)] [wF b, rFG] 1000 (by simp) (by simp) (by show a.length + 0 + (b.length + (0 + 0)) ≤ _; omega) (fun p hp => .inl (by rw [List.mem_singleton.1 hp])) (fun w hw => by rcases List.mem_cons.1 hw with e | e; exact .inl (by rw [e]; exact ⟨rfl, rfl⟩); exact .inr (List.mem_singleton.1 e))
  have hap := mkS_app a b
  have hzs : (mkS a).size + (mkS b).size ≤ 9223372036854775807 := by show a.toArray.size + b.toArray.size ≤ _; simp; omega
  have E1 := Aside0.mk e1
  have E2 := Aside0.mk e2
  have E3 := Aside0.mk e3
  have E4 := Aside0.mk e4
  have E5 := Aside0.mk e5
  have E6 := Aside0.mk e6
  have O1 := Aside0.mk o1
  have O2 := Aside0.mk o2
  have O3 := Aside0.mk o3
  have O4 := Aside0.mk o4
  have HCR := Aside0.mk hcr
  have HOK := Aside0.mk hok
  have HCA := Aside0.mk hca
  have HCB := Aside0.mk hcb
  have hk2 : decide (2 ≤ keep) = false := decide_eq_false (by omega)
  have hk1 : (keep == 1) = true := by rw [beq_iff_eq]; exact hk
  clear hk
  have h1 : decide (100 < (a.length : Int)) = false := decide_eq_false (by omega)
  have h2 : decide (100 < (b.length : Int)) = false := decide_eq_false (by omega)
  clear e1 e2 e3 e4 e5 e6 o1 o2 o3 o4 hcr hok hca hcb hlf
  go_enter Try.func5, Try.ntmps5
  go_wp2_with fail
  refine HNW.out.mono ?_
  rintro e w1 ⟨p, rfl, hD1, hB1⟩
  have HB := Aside0.mk hB1
  have HT := Aside0.mk (hD1.app (newS_ok 1000 |> fun h => by rw [dS_new (by omega)] at h; exact h) nF nF_size A c a (Kd.C_below HCA.out hB1) (by unfold maxB; omega) E1.out.1 E1.out.2)
  clear hD1 hB1
  go_wp2_with fail
  refine HT.out.mono ?_
  rintro e w2 ⟨rfl, hD2, hB2⟩
  replace HB := Aside0.mk (HB.out.trans hB2)
  replace HT := Aside0.mk (hD2.syn O1.out dS_doneR E2.out)
  clear hD2 hB2
  go_wp2_with fail
  refine HT.out.mono ?_
  rintro e w3 ⟨rfl, hD3, hB3⟩
  replace HB := Aside0.mk (HB.out.trans hB3)
  replace HT := Aside0.mk (hD3.app O2.out nF nF_size B d b (Kd.C_below HCB.out HB.out) (by unfold maxB; omega) E3.out.1 E3.out.2)
  clear hD3 hB3
  go_wp2_with fail
  refine HT.out.mono ?_
  rintro e w4 ⟨rfl, hD4, hB4⟩
  replace HB := Aside0.mk (HB.out.trans hB4)
  replace HT := Aside0.mk (hD4.ren O3.out nF nG nF_size nG_size E4.out.1 E4.out.2)
  clear hD4 hB4
  go_wp2_with fail
  refine HT.out.mono ?_
  rintro e w5 ⟨rfl, hD5, hB5⟩
  replace HB := Aside0.mk (HB.out.trans hB5)
  replace HT := Aside0.mk (hD5.crash O4.out keep torn HCR.out)
  clear hD5 hB5
  go_wp2_with fail
  refine HT.out.mono ?_
  rintro e w6 ⟨rfl, hD6, hB6⟩
  replace HB := Aside0.mk (HB.out.trans hB6)
  replace HT := Aside0.mk (hD6.read2 HOK.out nF nF_size E5.out.1 E5.out.2)
  clear hD6 hB6
  have HW6 := Aside0.mk (show w.heap.size ≤ w6.heap.size from HB.out.size)
  go_wp2_with fail
  refine HT.out.mono ?_
  rintro e w7 ⟨A7, c7, rfl, hC7, hD7, hB7⟩
  replace HB := Aside0.mk (HB.out.trans (hB7.mono HB.out.size))
  have HC7 := Aside0.mk hC7
  replace HT := Aside0.mk (hD7.read2 HOK.out nG nG_size E6.out.1 E6.out.2)
  have HBq7 := Aside0.mk hB7
  have HW7 := Aside0.mk (show w.heap.size ≤ w7.heap.size from hD7.2)
  clear hC7 hD7 hB7
  go_wp2_with fail
  refine HT.out.mono ?_
  rintro e w8 ⟨A8, c8, rfl, hC8, hD8, hB8⟩
  replace HB := Aside0.mk (HB.out.trans (hB8.mono HB.out.size))
  have HC8 := Aside0.mk hC8
  have HBq8 := Aside0.mk hB8
  have hsa : (convert 27 9 (.slice A a.length c)).run Try.prog w8 = .ok (.string (mkS a)) w8 := to_string (Kd.C_below HCA.out HB.out) c
  have hsb : (convert 27 9 (.slice B b.length d)).run Try.prog w8 = .ok (.string (mkS b)) w8 := to_string (Kd.C_below HCB.out HB.out) d
  clear hC8 hD8 hB8
  go_wp2_with fail
  refine (answers_calls _).mono ?_
  rintro e w20 ⟨rfl, hB20⟩
  replace HB := Aside0.mk (HB.out.trans (hB20.mono HB.out.size))
  have hs20 : (convert 27 9 (.slice A7 (a ++ b).length c7)).run Try.prog w20 = .ok (.string (mkS (a ++ b))) w20 := to_string (Kd.C_below (Kd.C_below HC7.out HBq8.out) hB20) c7
  rw [List.length_append] at hs20
  clear hB20
  go_wp2
  go_ret
  exact ⟨rfl, HB.out⟩
set_option maxRecDepth 100000 in
set_option maxHeartbeats 8000000 in
theorem DiskSure_n (keep torn : Int) (A B : Option Addr) (c d : Nat) (a b : By) (w : World) (hca : CB w A a) (hcb : CB w B b) (ha : a.length ≤ 100) (hb : b.length ≤ 100) (hk : keep < 1) (ht : torn < 0) :
    Calls Try.prog 5 #[.slice A a.length c, .slice B b.length d, .int .i64 keep, .int .i64 torn] w fun e w' => e = .returned (.bool true) ∧ Below w.heap.size w w' := by
  have hml : 0 ≤ b.length := by omega
  have hlf : left a b keep torn = [(nF, a)] := by unfold left; rw [if_neg (by omega), if_neg (by omega), show torn.toNat = 0 by omega, List.take_zero, List.append_nil]
  have hcr := crash_left a b keep torn
  rw [hlf] at hcr
  have hok := left_ok a b keep torn ha hb
  rw [hlf] at hok
  have HNW := Aside0.mk (New_dk w 1000)
  rw [dS_new (by omega)] at HNW
  have e1 : appendR (dS [] [] 1000) nF a.length = 0 ∧ appendS (dS [] [] 1000) nF a = dS [] [wF a] 1000 := dS_app nF_good (full_no (.inr (by decide)) (by show ((0 : Nat) : Int) + _ ≤ _; omega))
  have e2 : syncS (dS [] [wF a] 1000) = dS [(nF, a)] [] 1000 := rfl
  have e3 : appendR (dS [(nF, a)] [] 1000) nF b.length = 0 ∧ appendS (dS [(nF, a)] [] 1000) nF b = dS [(nF, a)] [wF b] 1000 := dS_app nF_good (full_no (.inr (by show 1 < 16; omega)) (by show ((a.length + 0 : Nat) : Int) + _ ≤ _; omega))
  have e4 : renameR (dS [(nF, a)] [wF b] 1000) nF nG = 0 ∧ renameS (dS [(nF, a)] [wF b] 1000) nF nG = dS [(nF, a)] [wF b, rFG] 1000 := dS_ren nF_good nG_good rfl
  have e5 : readR (dS [(nF, a)] [] 1000) nF = 0 ∧ readB (dS [(nF, a)] [] 1000) nF = a := dS_read nF_good
  have e6 : readR (dS [(nF, a)] [] 1000) nG = 3 ∧ readB (dS [(nF, a)] [] 1000) nG = [] := dS_read nG_good
  have o1 := sure_ok [] [wF a] 1000 (by simp) (by simp) (by show 0 + (a.length + 0) ≤ _; omega) (fun _ h => by cases h) (fun w hw => .inl (by rw [List.mem_singleton.1 hw]; exact ⟨rfl, rfl⟩))
  have o2 := sure_ok [(nF, a)] [] 1000 (by simp) (by simp) (by show a.length + 0 + 0 ≤ _; omega) (fun p hp => .inl (by rw [List.mem_singleton.1 hp])) (fun _ h => by cases h)
  have o3 := sure_ok [(nF, a)] [wF b] 1000 (by simp) (by simp) (by show a.length + 0 + (b.length + 0) ≤ _; omega) (fun p hp => .inl (by rw [List.mem_singleton.1 hp])) (fun w hw => .inl (by rw [List.mem_singleton.1 hw]; exact ⟨rfl, rfl⟩))
  have o4 := sure_ok [(nF, a)] [wF b, rFG] 1000 (by simp) (by simp) (by show a.length + 0 + (b.length + (0 + 0)) ≤ _; omega) (fun p hp => .inl (by rw [List.mem_singleton.1 hp])) (fun w hw => by rcases List.mem_cons.1 hw with e | e; exact .inl (by rw [e]; exact ⟨rfl, rfl⟩); exact .inr (List.mem_singleton.1 e))
  have hap := mkS_app a b
  have hzs : (mkS a).size + (mkS b).size ≤ 9223372036854775807 := by show a.toArray.size + b.toArray.size ≤ _; simp; omega
  have E1 := Aside0.mk e1
  have E2 := Aside0.mk e2
  have E3 := Aside0.mk e3
  have E4 := Aside0.mk e4
  have E5 := Aside0.mk e5
  have E6 := Aside0.mk e6
  have O1 := Aside0.mk o1
  have O2 := Aside0.mk o2
  have O3 := Aside0.mk o3
  have O4 := Aside0.mk o4
  have HCR := Aside0.mk hcr
  have HOK := Aside0.mk hok
  have HCA := Aside0.mk hca
  have HCB := Aside0.mk hcb
  have hk2 : decide (2 ≤ keep) = false := decide_eq_false (by omega)
  have hk1 : (keep == 1) = false := by rw [beq_eq_false_iff_ne]; omega
  have ht1 : decide (torn < 0) = true := decide_eq_true ht
  have ht2 : decide ((b.length : Int) < 0) = false := decide_eq_false (by omega)
  have h1 : decide (100 < (a.length : Int)) = false := decide_eq_false (by omega)
  have h2 : decide (100 < (b.length : Int)) = false := decide_eq_false (by omega)
  clear e1 e2 e3 e4 e5 e6 o1 o2 o3 o4 hcr hok hca hcb hlf
  go_enter Try.func5, Try.ntmps5
  go_wp2_with fail
  refine HNW.out.mono ?_
  rintro e w1 ⟨p, rfl, hD1, hB1⟩
  have HB := Aside0.mk hB1
  have HT := Aside0.mk (hD1.app (newS_ok 1000 |> fun h => by rw [dS_new (by omega)] at h; exact h) nF nF_size A c a (Kd.C_below HCA.out hB1) (by unfold maxB; omega) E1.out.1 E1.out.2)
  clear hD1 hB1
  go_wp2_with fail
  refine HT.out.mono ?_
  rintro e w2 ⟨rfl, hD2, hB2⟩
  replace HB := Aside0.mk (HB.out.trans hB2)
  replace HT := Aside0.mk (hD2.syn O1.out dS_doneR E2.out)
  clear hD2 hB2
  go_wp2_with fail
  refine HT.out.mono ?_
  rintro e w3 ⟨rfl, hD3, hB3⟩
  replace HB := Aside0.mk (HB.out.trans hB3)
  replace HT := Aside0.mk (hD3.app O2.out nF nF_size B d b (Kd.C_below HCB.out HB.out) (by unfold maxB; omega) E3.out.1 E3.out.2)
  clear hD3 hB3
  go_wp2_with fail
  refine HT.out.mono ?_
  rintro e w4 ⟨rfl, hD4, hB4⟩
  replace HB := Aside0.mk (HB.out.trans hB4)
  replace HT := Aside0.mk (hD4.ren O3.out nF nG nF_size nG_size E4.out.1 E4.out.2)
  clear hD4 hB4
  go_wp2_with fail
  refine HT.out.mono ?_
  rintro e w5 ⟨rfl, hD5, hB5⟩
  replace HB := Aside0.mk (HB.out.trans hB5)
  replace HT := Aside0.mk (hD5.crash O4.out keep torn HCR.out)
  clear hD5 hB5
  go_wp2_with fail
  refine HT.out.mono ?_
  rintro e w6 ⟨rfl, hD6, hB6⟩
  replace HB := Aside0.mk (HB.out.trans hB6)
  replace HT := Aside0.mk (hD6.read2 HOK.out nF nF_size E5.out.1 E5.out.2)
  clear hD6 hB6
  have HW6 := Aside0.mk (show w.heap.size ≤ w6.heap.size from HB.out.size)
  go_wp2_with fail
  refine HT.out.mono ?_
  rintro e w7 ⟨A7, c7, rfl, hC7, hD7, hB7⟩
  replace HB := Aside0.mk (HB.out.trans (hB7.mono HB.out.size))
  have HC7 := Aside0.mk hC7
  replace HT := Aside0.mk (hD7.read2 HOK.out nG nG_size E6.out.1 E6.out.2)
  have HBq7 := Aside0.mk hB7
  have HW7 := Aside0.mk (show w.heap.size ≤ w7.heap.size from hD7.2)
  clear hC7 hD7 hB7
  go_wp2_with fail
  refine HT.out.mono ?_
  rintro e w8 ⟨A8, c8, rfl, hC8, hD8, hB8⟩
  replace HB := Aside0.mk (HB.out.trans (hB8.mono HB.out.size))
  have HC8 := Aside0.mk hC8
  have HBq8 := Aside0.mk hB8
  have hsa : (convert 27 9 (.slice A a.length c)).run Try.prog w8 = .ok (.string (mkS a)) w8 := to_string (Kd.C_below HCA.out HB.out) c
  have hsb : (convert 27 9 (.slice B b.length d)).run Try.prog w8 = .ok (.string (mkS b)) w8 := to_string (Kd.C_below HCB.out HB.out) d
  clear hC8 hD8 hB8
  go_wp2
  have hwr : wrap64 (a.length : Int) = (a.length : Int) := Go.IntWalk.wrap64_in _ (by omega)
  have hzw : (mkS (a ++ b)).size = a.length + b.length := by show (a ++ b).toArray.size = _; simp
  have hle : a.length ≤ (mkS (a ++ b)).size := by rw [hzw]; omega
  have hli : (a.length : Int) ≤ ((mkS (a ++ b)).size : Int) := by rw [hzw]; omega
  have hex : (mkS (a ++ b)).extract 0 a.length = mkS (a) := (extract_str a b 0).trans (by rw [List.take_zero, List.append_nil])
  have htn : (a.length : Int).toNat = a.length := by omega
  have hpo : 0 ≤ (a.length : Int) := by omega
  clear hzw
  refine start_ (n := 21) (S := fun w' => (convert 27 9 (.slice A7 a.length c7)).run Try.prog w' = .ok (.string (mkS (a))) w') (ds := []) #[false, false, false, false, false, false, false, false, false, false, false, false, false, false, false, false, false, false, false, false, false] (by kernel_rfl) rfl rfl ((by have := to_string (Kd.C_below (Kd.C_below HC7.out HBq8.out) (below_drew (Below.refl _ _))) c7; rw [show (a).length = a.length by rfl] at this; exact this)) (fun hHeld => ?_)
  refine one_ (i := 0) (N := some 98) #[true, false, false, false, false, false, false, false, false, false, false, false, false, false, false, false, false, false, false, false, false] rfl rfl (by kernel_rfl) (by decide) (fun K hK => ?_)
  refine goes_ Try.func13 (by kernel_rfl) rfl #[] (by rfl) rfl rfl (by simp only [List.map_toArray, List.map_nil]) ?_
  with_reducible refine ((answers_calls _)).mono ?_
  rintro e w20 ⟨rfl, hB20⟩
  refine ⟨_, rfl, ?_⟩
  have HB20 := Aside0.mk hB20
  clear hB20
  refine hK.out _ _ ((by have := to_string (Kd.C_below (Kd.C_below HC7.out HBq8.out) ((below_drew (Below.refl _ _)).trans HB20.out)) c7; rw [show (a).length = a.length by rfl] at this; exact this)) (fun hHeld => ?_)
  clear hK K
  refine norm_ (a' := ?_) ?_ ?_
  rotate_left
  · show Act.put _ (some 98) _ = _
    simp only [Act.put, List.setIfInBounds_toArray, List.set_cons_zero, List.set_cons_succ, i64_w, i32_w]
    rfl
  refine pure_ (i := 1) (N := some 99) (v := ?_) (a' := ?_) #[true, true, false, false, false, false, false, false, false, false, false, false, false, false, false, false, false, false, false, false, false] rfl rfl (by kernel_rfl) (fun _ _ _ h => h) (Or.inl ⟨by rfl, ?_⟩) ?_ ?_
  rotate_left
  · intro w'
    go_simp
    with_reducible rfl
  rotate_left
  · simp only [Act.put, List.setIfInBounds_toArray, List.set_cons_zero, List.set_cons_succ, i64_w, i32_w]
    rfl
  refine pure_ (i := 2) (N := some 100) (v := ?_) (a' := ?_) #[true, true, true, false, false, false, false, false, false, false, false, false, false, false, false, false, false, false, false, false, false] rfl rfl (by kernel_rfl) (fun _ _ _ h => h) (Or.inl ⟨by rfl, ?_⟩) ?_ ?_
  rotate_left
  · intro w'
    go_simp
    with_reducible rfl
  rotate_left
  · simp only [Act.put, List.setIfInBounds_toArray, List.set_cons_zero, List.set_cons_succ, i64_w, i32_w]
    rfl
  refine pure_ (i := 3) (N := some 101) (v := ?_) (a' := ?_) #[true, true, true, true, false, false, false, false, false, false, false, false, false, false, false, false, false, false, false, false, false] rfl rfl (by kernel_rfl) (fun _ _ _ h => h) (Or.inl ⟨by rfl, ?_⟩) ?_ ?_
  rotate_left
  · intro w'
    go_simp
    with_reducible rfl
  rotate_left
  · simp only [Act.put, List.setIfInBounds_toArray, List.set_cons_zero, List.set_cons_succ, i64_w, i32_w]
    rfl
  refine pure_ (i := 4) (N := some 102) (v := ?_) (a' := ?_) #[true, true, true, true, true, false, false, false, false, false, false, false, false, false, false, false, false, false, false, false, false] rfl rfl (by kernel_rfl) (fun _ _ _ h => h) (Or.inl ⟨by rfl, ?_⟩) ?_ ?_
  rotate_left
  · intro w'
    go_simp
    with_reducible rfl
  rotate_left
  · simp only [Act.put, List.setIfInBounds_toArray, List.set_cons_zero, List.set_cons_succ, i64_w, i32_w]
    rfl
  refine pure_ (i := 5) (N := some 103) (v := ?_) (a' := ?_) #[true, true, true, true, true, true, false, false, false, false, false, false, false, false, false, false, false, false, false, false, false] rfl rfl (by kernel_rfl) (fun _ _ _ h => h) (Or.inl ⟨by rfl, ?_⟩) ?_ ?_
  rotate_left
  · intro w'
    go_simp
    with_reducible rfl
  rotate_left
  · simp only [Act.put, List.setIfInBounds_toArray, List.set_cons_zero, List.set_cons_succ, i64_w, i32_w]
    rfl
  refine pure_ (i := 6) (N := some 104) (v := ?_) (a' := ?_) #[true, true, true, true, true, true, true, false, false, false, false, false, false, false, false, false, false, false, false, false, false] rfl rfl (by kernel_rfl) (fun _ _ _ h => h) (Or.inl ⟨by rfl, ?_⟩) ?_ ?_
  rotate_left
  · intro w'
    go_simp
    with_reducible rfl
  rotate_left
  · simp only [Act.put, List.setIfInBounds_toArray, List.set_cons_zero, List.set_cons_succ, i64_w, i32_w]
    rfl
  refine pure_ (i := 7) (N := some 105) (v := ?_) (a' := ?_) #[true, true, true, true, true, true, true, true, false, false, false, false, false, false, false, false, false, false, false, false, false] rfl rfl (by kernel_rfl) (fun _ _ _ h => h) (Or.inl ⟨by rfl, ?_⟩) ?_ ?_
  rotate_left
  · intro w'
    go_simp
    with_reducible rfl
  rotate_left
  · simp only [Act.put, List.setIfInBounds_toArray, List.set_cons_zero, List.set_cons_succ, i64_w, i32_w]
    rfl
  refine pure_ (i := 8) (N := some 106) (v := ?_) (a' := ?_) #[true, true, true, true, true, true, true, true, true, false, false, false, false, false, false, false, false, false, false, false, false] rfl rfl (by kernel_rfl) (fun _ _ _ h => h) (Or.inl ⟨by rfl, ?_⟩) ?_ ?_
  rotate_left
  · intro w'
    go_simp
    with_reducible rfl
  rotate_left
  · simp only [Act.put, List.setIfInBounds_toArray, List.set_cons_zero, List.set_cons_succ, i64_w, i32_w]
    rfl
  refine pure_ (i := 9) (N := some 107) (v := ?_) (a' := ?_) #[true, true, true, true, true, true, true, true, true, true, false, false, false, false, false, false, false, false, false, false, false] rfl rfl (by kernel_rfl) (fun _ _ _ h => h) (Or.inl ⟨by rfl, ?_⟩) ?_ ?_
  rotate_left
  · intro w'
    go_simp
    with_reducible rfl
  rotate_left
  · simp only [Act.put, List.setIfInBounds_toArray, List.set_cons_zero, List.set_cons_succ, i64_w, i32_w]
    rfl
  refine pure_ (i := 10) (N := some 108) (v := ?_) (a' := ?_) #[true, true, true, true, true, true, true, true, true, true, true, false, false, false, false, false, false, false, false, false, false] rfl rfl (by kernel_rfl) (fun _ _ _ h => h) (Or.inl ⟨by rfl, ?_⟩) ?_ ?_
  rotate_left
  · intro w'
    go_simp
    with_reducible rfl
  rotate_left
  · simp only [Act.put, List.setIfInBounds_toArray, List.set_cons_zero, List.set_cons_succ, i64_w, i32_w]
    rfl
  refine pure_ (i := 12) (N := some 110) (v := ?_) (a' := ?_) #[true, true, true, true, true, true, true, true, true, true, true, false, true, false, false, false, false, false, false, false, false] rfl rfl (by kernel_rfl) (fun _ _ _ h => h) (Or.inl ⟨by rfl, ?_⟩) ?_ ?_
  rotate_left
  · intro w'
    go_simp
    with_reducible rfl
  rotate_left
  · simp only [Act.put, List.setIfInBounds_toArray, List.set_cons_zero, List.set_cons_succ, i64_w, i32_w]
    rfl
  refine pure_ (i := 13) (N := some 111) (v := ?_) (a' := ?_) #[true, true, true, true, true, true, true, true, true, true, true, false, true, true, false, false, false, false, false, false, false] rfl rfl (by kernel_rfl) (fun _ _ _ h => h) (Or.inl ⟨by rfl, ?_⟩) ?_ ?_
  rotate_left
  · intro w'
    go_simp
    with_reducible rfl
  rotate_left
  · simp only [Act.put, List.setIfInBounds_toArray, List.set_cons_zero, List.set_cons_succ, i64_w, i32_w]
    rfl
  refine pure_ (i := 14) (N := some 112) (v := ?_) (a' := ?_) #[true, true, true, true, true, true, true, true, true, true, true, false, true, true, true, false, false, false, false, false, false] rfl rfl (by kernel_rfl) (fun _ _ _ h => h) (Or.inl ⟨by rfl, ?_⟩) ?_ ?_
  rotate_left
  · intro w'
    go_simp
    with_reducible rfl
  rotate_left
  · simp only [Act.put, List.setIfInBounds_toArray, List.set_cons_zero, List.set_cons_succ, i64_w, i32_w]
    rfl
  refine pure_ (i := 15) (N := some 113) (v := ?_) (a' := ?_) #[true, true, true, true, true, true, true, true, true, true, true, false, true, true, true, true, false, false, false, false, false] rfl rfl (by kernel_rfl) (fun _ _ _ h => h) (Or.inl ⟨by rfl, ?_⟩) ?_ ?_
  rotate_left
  · intro w'
    go_simp
    with_reducible rfl
  rotate_left
  · simp only [Act.put, List.setIfInBounds_toArray, List.set_cons_zero, List.set_cons_succ, i64_w, i32_w]
    rfl
  refine pure_ (i := 16) (N := some 114) (v := ?_) (a' := ?_) #[true, true, true, true, true, true, true, true, true, true, true, false, true, true, true, true, true, false, false, false, false] rfl rfl (by kernel_rfl) (fun _ _ _ h => h) (Or.inl ⟨by rfl, ?_⟩) ?_ ?_
  rotate_left
  · intro w'
    go_simp
    with_reducible rfl
  rotate_left
  · simp only [Act.put, List.setIfInBounds_toArray, List.set_cons_zero, List.set_cons_succ, i64_w, i32_w]
    rfl
  refine pure_ (i := 17) (N := some 115) (v := ?_) (a' := ?_) #[true, true, true, true, true, true, true, true, true, true, true, false, true, true, true, true, true, true, false, false, false] rfl rfl (by kernel_rfl) (fun _ _ _ h => h) (Or.inl ⟨by rfl, ?_⟩) ?_ ?_
  rotate_left
  · intro w'
    go_simp
    with_reducible rfl
  rotate_left
  · simp only [Act.put, List.setIfInBounds_toArray, List.set_cons_zero, List.set_cons_succ, i64_w, i32_w]
    rfl
  refine take_ (i := 11) (N := some 109) (v := ?_) (a' := ?_) #[true, true, true, true, true, true, true, true, true, true, true, true, true, true, true, true, true, true, false, false, false] rfl rfl (by kernel_rfl) (fun _ _ _ h => h) (Or.inl ⟨by rfl, ?_⟩) hHeld ?_ ?_
  rotate_left
  · intro w' s0
    go_simp
    with_reducible rfl
  rotate_left
  · simp only [Act.put, List.setIfInBounds_toArray, List.set_cons_zero, List.set_cons_succ, i64_w, i32_w]
    rfl
  refine pure_ (i := 18) (N := some 116) (v := ?_) (a' := ?_) #[true, true, true, true, true, true, true, true, true, true, true, true, true, true, true, true, true, true, true, false, false] rfl rfl (by kernel_rfl) (fun _ _ _ h => h) (Or.inl ⟨by rfl, ?_⟩) ?_ ?_
  rotate_left
  · intro w'
    go_simp
    with_reducible rfl
  rotate_left
  · simp only [Act.put, List.setIfInBounds_toArray, List.set_cons_zero, List.set_cons_succ, i64_w, i32_w]
    rfl
  refine pure_ (i := 19) (N := some 117) (v := ?_) (a' := ?_) #[true, true, true, true, true, true, true, true, true, true, true, true, true, true, true, true, true, true, true, true, false] rfl rfl (by kernel_rfl) (fun _ _ _ h => h) (Or.inl ⟨by rfl, ?_⟩) ?_ ?_
  rotate_left
  · intro w'
    go_simp
    with_reducible rfl
  rotate_left
  · simp only [Act.put, List.setIfInBounds_toArray, List.set_cons_zero, List.set_cons_succ, i64_w, i32_w]
    rfl
  refine pure_ (i := 20) (N := some 8) (v := ?_) (a' := ?_) #[true, true, true, true, true, true, true, true, true, true, true, true, true, true, true, true, true, true, true, true, true] rfl rfl (by kernel_rfl) (fun _ _ _ h => h) (Or.inl ⟨by rfl, ?_⟩) ?_ ?_
  rotate_left
  · intro w'
    go_simp
    with_reducible rfl
  rotate_left
  · simp only [Act.put, List.setIfInBounds_toArray, List.set_cons_zero, List.set_cons_succ, i64_w, i32_w]
    rfl
  refine done_ (by kernel_rfl) ?_
  go_wp2
  go_ret
  exact ⟨rfl, (HB.out.trans ((below_drew (Below.refl _ _)).mono HB.out.size)).trans (HB20.out.mono (by exact HB.out.size))⟩
set_option maxRecDepth 100000 in
set_option maxHeartbeats 8000000 in
theorem DiskSure_m (keep torn : Int) (A B : Option Addr) (c d : Nat) (a b : By) (w : World) (hca : CB w A a) (hcb : CB w B b) (ha : a.length ≤ 100) (hb : b.length ≤ 100) (hk : keep < 1) (ht : 0 ≤ torn) (ht2 : torn ≤ b.length) :
    Calls Try.prog 5 #[.slice A a.length c, .slice B b.length d, .int .i64 keep, .int .i64 torn] w fun e w' => e = .returned (.bool true) ∧ Below w.heap.size w w' := by
  obtain ⟨m, rfl⟩ := Int.eq_ofNat_of_zero_le ht
  have hml : m ≤ b.length := by omega
  have hlf : left a b keep (m : Int) = [(nF, a ++ b.take m)] := by unfold left; rw [if_neg (by omega), if_neg (by omega), Int.toNat_natCast]
  have hcr := crash_left a b keep (m : Int)
  rw [hlf] at hcr
  have hok := left_ok a b keep (m : Int) ha hb
  rw [hlf] at hok
  have HNW := Aside0.mk (New_dk w 1000)
  rw [dS_new (by omega)] at HNW
  have e1 : appendR (dS [] [] 1000) nF a.length = 0 ∧ appendS (dS [] [] 1000) nF a = dS [] [wF a] 1000 := dS_app nF_good (full_no (.inr (by decide)) (by show ((0 : Nat) : Int) + _ ≤ _; omega))
  have e2 : syncS (dS [] [wF a] 1000) = dS [(nF, a)] [] 1000 := rfl
  have e3 : appendR (dS [(nF, a)] [] 1000) nF b.length = 0 ∧ appendS (dS [(nF, a)] [] 1000) nF b = dS [(nF, a)] [wF b] 1000 := dS_app nF_good (full_no (.inr (by show 1 < 16; omega)) (by show ((a.length + 0 : Nat) : Int) + _ ≤ _; omega))
  have e4 : renameR (dS [(nF, a)] [wF b] 1000) nF nG = 0 ∧ renameS (dS [(nF, a)] [wF b] 1000) nF nG = dS [(nF, a)] [wF b, rFG] 1000 := dS_ren nF_good nG_good rfl
  have e5 : readR (dS [(nF, a ++ b.take m)] [] 1000) nF = 0 ∧ readB (dS [(nF, a ++ b.take m)] [] 1000) nF = a ++ b.take m := dS_read nF_good
  have e6 : readR (dS [(nF, a ++ b.take m)] [] 1000) nG = 3 ∧ readB (dS [(nF, a ++ b.take m)] [] 1000) nG = [] := dS_read nG_good
  have o1 := sure_ok [] [wF a] 1000 (by simp) (by simp) (by show 0 + (a.length + 0) ≤ _; omega) (fun _ h => by cases h) (fun w hw => .inl (by rw [List.mem_singleton.1 hw]; exact ⟨rfl, rfl⟩))
  have o2 := sure_ok [(nF, a)] [] 1000 (by simp) (by simp) (by show a.length + 0 + 0 ≤ _; omega) (fun p hp => .inl (by rw [List.mem_singleton.1 hp])) (fun _ h => by cases h)
  have o3 := sure_ok [(nF, a)] [wF b] 1000 (by simp) (by simp) (by show a.length + 0 + (b.length + 0) ≤ _; omega) (fun p hp => .inl (by rw [List.mem_singleton.1 hp])) (fun w hw => .inl (by rw [List.mem_singleton.1 hw]; exact ⟨rfl, rfl⟩))
  have o4 := sure_ok [(nF, a)] [wF b, rFG] 1000 (by simp) (by simp) (by show a.length + 0 + (b.length + (0 + 0)) ≤ _; omega) (fun p hp => .inl (by rw [List.mem_singleton.1 hp])) (fun w hw => by rcases List.mem_cons.1 hw with e | e; exact .inl (by rw [e]; exact ⟨rfl, rfl⟩); exact .inr (List.mem_singleton.1 e))
  have hap := mkS_app a b
  have hzs : (mkS a).size + (mkS b).size ≤ 9223372036854775807 := by show a.toArray.size + b.toArray.size ≤ _; simp; omega
  have E1 := Aside0.mk e1
  have E2 := Aside0.mk e2
  have E3 := Aside0.mk e3
  have E4 := Aside0.mk e4
  have E5 := Aside0.mk e5
  have E6 := Aside0.mk e6
  have O1 := Aside0.mk o1
  have O2 := Aside0.mk o2
  have O3 := Aside0.mk o3
  have O4 := Aside0.mk o4
  have HCR := Aside0.mk hcr
  have HOK := Aside0.mk hok
  have HCA := Aside0.mk hca
  have HCB := Aside0.mk hcb
  have hk2 : decide (2 ≤ keep) = false := decide_eq_false (by omega)
  have hk1 : (keep == 1) = false := by rw [beq_eq_false_iff_ne]; omega
  have ht1 : decide ((m : Int) < 0) = false := decide_eq_false (by omega)
  have ht3 : decide (b.length < m) = false := decide_eq_false (by omega)
  clear ht ht2
  have h1 : decide (100 < (a.length : Int)) = false := decide_eq_false (by omega)
  have h2 : decide (100 < (b.length : Int)) = false := decide_eq_false (by omega)
  clear e1 e2 e3 e4 e5 e6 o1 o2 o3 o4 hcr hok hca hcb hlf
  go_enter Try.func5, Try.ntmps5
  go_wp2_with fail
  refine HNW.out.mono ?_
  rintro e w1 ⟨p, rfl, hD1, hB1⟩
  have HB := Aside0.mk hB1
  have HT := Aside0.mk (hD1.app (newS_ok 1000 |> fun h => by rw [dS_new (by omega)] at h; exact h) nF nF_size A c a (Kd.C_below HCA.out hB1) (by unfold maxB; omega) E1.out.1 E1.out.2)
  clear hD1 hB1
  go_wp2_with fail
  refine HT.out.mono ?_
  rintro e w2 ⟨rfl, hD2, hB2⟩
  replace HB := Aside0.mk (HB.out.trans hB2)
  replace HT := Aside0.mk (hD2.syn O1.out dS_doneR E2.out)
  clear hD2 hB2
  go_wp2_with fail
  refine HT.out.mono ?_
  rintro e w3 ⟨rfl, hD3, hB3⟩
  replace HB := Aside0.mk (HB.out.trans hB3)
  replace HT := Aside0.mk (hD3.app O2.out nF nF_size B d b (Kd.C_below HCB.out HB.out) (by unfold maxB; omega) E3.out.1 E3.out.2)
  clear hD3 hB3
  go_wp2_with fail
  refine HT.out.mono ?_
  rintro e w4 ⟨rfl, hD4, hB4⟩
  replace HB := Aside0.mk (HB.out.trans hB4)
  replace HT := Aside0.mk (hD4.ren O3.out nF nG nF_size nG_size E4.out.1 E4.out.2)
  clear hD4 hB4
  go_wp2_with fail
  refine HT.out.mono ?_
  rintro e w5 ⟨rfl, hD5, hB5⟩
  replace HB := Aside0.mk (HB.out.trans hB5)
  replace HT := Aside0.mk (hD5.crash O4.out keep (m : Int) HCR.out)
  clear hD5 hB5
  go_wp2_with fail
  refine HT.out.mono ?_
  rintro e w6 ⟨rfl, hD6, hB6⟩
  replace HB := Aside0.mk (HB.out.trans hB6)
  replace HT := Aside0.mk (hD6.read2 HOK.out nF nF_size E5.out.1 E5.out.2)
  clear hD6 hB6
  have HW6 := Aside0.mk (show w.heap.size ≤ w6.heap.size from HB.out.size)
  go_wp2_with fail
  refine HT.out.mono ?_
  rintro e w7 ⟨A7, c7, rfl, hC7, hD7, hB7⟩
  replace HB := Aside0.mk (HB.out.trans (hB7.mono HB.out.size))
  have HC7 := Aside0.mk hC7
  replace HT := Aside0.mk (hD7.read2 HOK.out nG nG_size E6.out.1 E6.out.2)
  have HBq7 := Aside0.mk hB7
  have HW7 := Aside0.mk (show w.heap.size ≤ w7.heap.size from hD7.2)
  clear hC7 hD7 hB7
  go_wp2_with fail
  refine HT.out.mono ?_
  rintro e w8 ⟨A8, c8, rfl, hC8, hD8, hB8⟩
  replace HB := Aside0.mk (HB.out.trans (hB8.mono HB.out.size))
  have HC8 := Aside0.mk hC8
  have HBq8 := Aside0.mk hB8
  have hsa : (convert 27 9 (.slice A a.length c)).run Try.prog w8 = .ok (.string (mkS a)) w8 := to_string (Kd.C_below HCA.out HB.out) c
  have hsb : (convert 27 9 (.slice B b.length d)).run Try.prog w8 = .ok (.string (mkS b)) w8 := to_string (Kd.C_below HCB.out HB.out) d
  clear hC8 hD8 hB8
  go_wp2
  have hwr : wrap64 ((a.length : Int) + (m : Int)) = ((a.length : Int) + (m : Int)) := Go.IntWalk.wrap64_in _ (by omega)
  have hzw : (mkS (a ++ b)).size = a.length + b.length := by show (a ++ b).toArray.size = _; simp
  have hle : (a.length + m) ≤ (mkS (a ++ b)).size := by rw [hzw]; omega
  have hli : ((a.length : Int) + (m : Int)) ≤ ((mkS (a ++ b)).size : Int) := by rw [hzw]; omega
  have hex : (mkS (a ++ b)).extract 0 (a.length + m) = mkS (a ++ b.take m) := extract_str a b m
  have htn : ((a.length : Int) + (m : Int)).toNat = (a.length + m) := by omega
  have hpo : 0 ≤ ((a.length : Int) + (m : Int)) := by omega
  clear hzw
  refine start_ (n := 21) (S := fun w' => (convert 27 9 (.slice A7 (a.length + m) c7)).run Try.prog w' = .ok (.string (mkS (a ++ b.take m))) w') (ds := []) #[false, false, false, false, false, false, false, false, false, false, false, false, false, false, false, false, false, false, false, false, false] (by kernel_rfl) rfl rfl ((by have := to_string (Kd.C_below (Kd.C_below HC7.out HBq8.out) (below_drew (Below.refl _ _))) c7; rw [show (a ++ b.take m).length = (a.length + m) by rw [List.length_append, List.length_take]; omega] at this; exact this)) (fun hHeld => ?_)
  refine one_ (i := 0) (N := some 98) #[true, false, false, false, false, false, false, false, false, false, false, false, false, false, false, false, false, false, false, false, false] rfl rfl (by kernel_rfl) (by decide) (fun K hK => ?_)
  refine goes_ Try.func13 (by kernel_rfl) rfl #[] (by rfl) rfl rfl (by simp only [List.map_toArray, List.map_nil]) ?_
  with_reducible refine ((answers_calls _)).mono ?_
  rintro e w20 ⟨rfl, hB20⟩
  refine ⟨_, rfl, ?_⟩
  have HB20 := Aside0.mk hB20
  clear hB20
  refine hK.out _ _ ((by have := to_string (Kd.C_below (Kd.C_below HC7.out HBq8.out) ((below_drew (Below.refl _ _)).trans HB20.out)) c7; rw [show (a ++ b.take m).length = (a.length + m) by rw [List.length_append, List.length_take]; omega] at this; exact this)) (fun hHeld => ?_)
  clear hK K
  refine norm_ (a' := ?_) ?_ ?_
  rotate_left
  · show Act.put _ (some 98) _ = _
    simp only [Act.put, List.setIfInBounds_toArray, List.set_cons_zero, List.set_cons_succ, i64_w, i32_w]
    rfl
  refine pure_ (i := 1) (N := some 99) (v := ?_) (a' := ?_) #[true, true, false, false, false, false, false, false, false, false, false, false, false, false, false, false, false, false, false, false, false] rfl rfl (by kernel_rfl) (fun _ _ _ h => h) (Or.inl ⟨by rfl, ?_⟩) ?_ ?_
  rotate_left
  · intro w'
    go_simp
    with_reducible rfl
  rotate_left
  · simp only [Act.put, List.setIfInBounds_toArray, List.set_cons_zero, List.set_cons_succ, i64_w, i32_w]
    rfl
  refine pure_ (i := 2) (N := some 100) (v := ?_) (a' := ?_) #[true, true, true, false, false, false, false, false, false, false, false, false, false, false, false, false, false, false, false, false, false] rfl rfl (by kernel_rfl) (fun _ _ _ h => h) (Or.inl ⟨by rfl, ?_⟩) ?_ ?_
  rotate_left
  · intro w'
    go_simp
    with_reducible rfl
  rotate_left
  · simp only [Act.put, List.setIfInBounds_toArray, List.set_cons_zero, List.set_cons_succ, i64_w, i32_w]
    rfl
  refine pure_ (i := 3) (N := some 101) (v := ?_) (a' := ?_) #[true, true, true, true, false, false, false, false, false, false, false, false, false, false, false, false, false, false, false, false, false] rfl rfl (by kernel_rfl) (fun _ _ _ h => h) (Or.inl ⟨by rfl, ?_⟩) ?_ ?_
  rotate_left
  · intro w'
    go_simp
    with_reducible rfl
  rotate_left
  · simp only [Act.put, List.setIfInBounds_toArray, List.set_cons_zero, List.set_cons_succ, i64_w, i32_w]
    rfl
  refine pure_ (i := 4) (N := some 102) (v := ?_) (a' := ?_) #[true, true, true, true, true, false, false, false, false, false, false, false, false, false, false, false, false, false, false, false, false] rfl rfl (by kernel_rfl) (fun _ _ _ h => h) (Or.inl ⟨by rfl, ?_⟩) ?_ ?_
  rotate_left
  · intro w'
    go_simp
    with_reducible rfl
  rotate_left
  · simp only [Act.put, List.setIfInBounds_toArray, List.set_cons_zero, List.set_cons_succ, i64_w, i32_w]
    rfl
  refine pure_ (i := 5) (N := some 103) (v := ?_) (a' := ?_) #[true, true, true, true, true, true, false, false, false, false, false, false, false, false, false, false, false, false, false, false, false] rfl rfl (by kernel_rfl) (fun _ _ _ h => h) (Or.inl ⟨by rfl, ?_⟩) ?_ ?_
  rotate_left
  · intro w'
    go_simp
    with_reducible rfl
  rotate_left
  · simp only [Act.put, List.setIfInBounds_toArray, List.set_cons_zero, List.set_cons_succ, i64_w, i32_w]
    rfl
  refine pure_ (i := 6) (N := some 104) (v := ?_) (a' := ?_) #[true, true, true, true, true, true, true, false, false, false, false, false, false, false, false, false, false, false, false, false, false] rfl rfl (by kernel_rfl) (fun _ _ _ h => h) (Or.inl ⟨by rfl, ?_⟩) ?_ ?_
  rotate_left
  · intro w'
    go_simp
    with_reducible rfl
  rotate_left
  · simp only [Act.put, List.setIfInBounds_toArray, List.set_cons_zero, List.set_cons_succ, i64_w, i32_w]
    rfl
  refine pure_ (i := 7) (N := some 105) (v := ?_) (a' := ?_) #[true, true, true, true, true, true, true, true, false, false, false, false, false, false, false, false, false, false, false, false, false] rfl rfl (by kernel_rfl) (fun _ _ _ h => h) (Or.inl ⟨by rfl, ?_⟩) ?_ ?_
  rotate_left
  · intro w'
    go_simp
    with_reducible rfl
  rotate_left
  · simp only [Act.put, List.setIfInBounds_toArray, List.set_cons_zero, List.set_cons_succ, i64_w, i32_w]
    rfl
  refine pure_ (i := 8) (N := some 106) (v := ?_) (a' := ?_) #[true, true, true, true, true, true, true, true, true, false, false, false, false, false, false, false, false, false, false, false, false] rfl rfl (by kernel_rfl) (fun _ _ _ h => h) (Or.inl ⟨by rfl, ?_⟩) ?_ ?_
  rotate_left
  · intro w'
    go_simp
    with_reducible rfl
  rotate_left
  · simp only [Act.put, List.setIfInBounds_toArray, List.set_cons_zero, List.set_cons_succ, i64_w, i32_w]
    rfl
  refine pure_ (i := 9) (N := some 107) (v := ?_) (a' := ?_) #[true, true, true, true, true, true, true, true, true, true, false, false, false, false, false, false, false, false, false, false, false] rfl rfl (by kernel_rfl) (fun _ _ _ h => h) (Or.inl ⟨by rfl, ?_⟩) ?_ ?_
  rotate_left
  · intro w'
    go_simp
    with_reducible rfl
  rotate_left
  · simp only [Act.put, List.setIfInBounds_toArray, List.set_cons_zero, List.set_cons_succ, i64_w, i32_w]
    rfl
  refine pure_ (i := 10) (N := some 108) (v := ?_) (a' := ?_) #[true, true, true, true, true, true, true, true, true, true, true, false, false, false, false, false, false, false, false, false, false] rfl rfl (by kernel_rfl) (fun _ _ _ h => h) (Or.inl ⟨by rfl, ?_⟩) ?_ ?_
  rotate_left
  · intro w'
    go_simp
    with_reducible rfl
  rotate_left
  · simp only [Act.put, List.setIfInBounds_toArray, List.set_cons_zero, List.set_cons_succ, i64_w, i32_w]
    rfl
  refine pure_ (i := 12) (N := some 110) (v := ?_) (a' := ?_) #[true, true, true, true, true, true, true, true, true, true, true, false, true, false, false, false, false, false, false, false, false] rfl rfl (by kernel_rfl) (fun _ _ _ h => h) (Or.inl ⟨by rfl, ?_⟩) ?_ ?_
  rotate_left
  · intro w'
    go_simp
    with_reducible rfl
  rotate_left
  · simp only [Act.put, List.setIfInBounds_toArray, List.set_cons_zero, List.set_cons_succ, i64_w, i32_w]
    rfl
  refine pure_ (i := 13) (N := some 111) (v := ?_) (a' := ?_) #[true, true, true, true, true, true, true, true, true, true, true, false, true, true, false, false, false, false, false, false, false] rfl rfl (by kernel_rfl) (fun _ _ _ h => h) (Or.inl ⟨by rfl, ?_⟩) ?_ ?_
  rotate_left
  · intro w'
    go_simp
    with_reducible rfl
  rotate_left
  · simp only [Act.put, List.setIfInBounds_toArray, List.set_cons_zero, List.set_cons_succ, i64_w, i32_w]
    rfl
  refine pure_ (i := 14) (N := some 112) (v := ?_) (a' := ?_) #[true, true, true, true, true, true, true, true, true, true, true, false, true, true, true, false, false, false, false, false, false] rfl rfl (by kernel_rfl) (fun _ _ _ h => h) (Or.inl ⟨by rfl, ?_⟩) ?_ ?_
  rotate_left
  · intro w'
    go_simp
    with_reducible rfl
  rotate_left
  · simp only [Act.put, List.setIfInBounds_toArray, List.set_cons_zero, List.set_cons_succ, i64_w, i32_w]
    rfl
  refine pure_ (i := 15) (N := some 113) (v := ?_) (a' := ?_) #[true, true, true, true, true, true, true, true, true, true, true, false, true, true, true, true, false, false, false, false, false] rfl rfl (by kernel_rfl) (fun _ _ _ h => h) (Or.inl ⟨by rfl, ?_⟩) ?_ ?_
  rotate_left
  · intro w'
    go_simp
    with_reducible rfl
  rotate_left
  · simp only [Act.put, List.setIfInBounds_toArray, List.set_cons_zero, List.set_cons_succ, i64_w, i32_w]
    rfl
  refine pure_ (i := 16) (N := some 114) (v := ?_) (a' := ?_) #[true, true, true, true, true, true, true, true, true, true, true, false, true, true, true, true, true, false, false, false, false] rfl rfl (by kernel_rfl) (fun _ _ _ h => h) (Or.inl ⟨by rfl, ?_⟩) ?_ ?_
  rotate_left
  · intro w'
    go_simp
    with_reducible rfl
  rotate_left
  · simp only [Act.put, List.setIfInBounds_toArray, List.set_cons_zero, List.set_cons_succ, i64_w, i32_w]
    rfl
  refine pure_ (i := 17) (N := some 115) (v := ?_) (a' := ?_) #[true, true, true, true, true, true, true, true, true, true, true, false, true, true, true, true, true, true, false, false, false] rfl rfl (by kernel_rfl) (fun _ _ _ h => h) (Or.inl ⟨by rfl, ?_⟩) ?_ ?_
  rotate_left
  · intro w'
    go_simp
    with_reducible rfl
  rotate_left
  · simp only [Act.put, List.setIfInBounds_toArray, List.set_cons_zero, List.set_cons_succ, i64_w, i32_w]
    rfl
  refine take_ (i := 11) (N := some 109) (v := ?_) (a' := ?_) #[true, true, true, true, true, true, true, true, true, true, true, true, true, true, true, true, true, true, false, false, false] rfl rfl (by kernel_rfl) (fun _ _ _ h => h) (Or.inl ⟨by rfl, ?_⟩) hHeld ?_ ?_
  rotate_left
  · intro w' s0
    go_simp
    with_reducible rfl
  rotate_left
  · simp only [Act.put, List.setIfInBounds_toArray, List.set_cons_zero, List.set_cons_succ, i64_w, i32_w]
    rfl
  refine pure_ (i := 18) (N := some 116) (v := ?_) (a' := ?_) #[true, true, true, true, true, true, true, true, true, true, true, true, true, true, true, true, true, true, true, false, false] rfl rfl (by kernel_rfl) (fun _ _ _ h => h) (Or.inl ⟨by rfl, ?_⟩) ?_ ?_
  rotate_left
  · intro w'
    go_simp
    with_reducible rfl
  rotate_left
  · simp only [Act.put, List.setIfInBounds_toArray, List.set_cons_zero, List.set_cons_succ, i64_w, i32_w]
    rfl
  refine pure_ (i := 19) (N := some 117) (v := ?_) (a' := ?_) #[true, true, true, true, true, true, true, true, true, true, true, true, true, true, true, true, true, true, true, true, false] rfl rfl (by kernel_rfl) (fun _ _ _ h => h) (Or.inl ⟨by rfl, ?_⟩) ?_ ?_
  rotate_left
  · intro w'
    go_simp
    with_reducible rfl
  rotate_left
  · simp only [Act.put, List.setIfInBounds_toArray, List.set_cons_zero, List.set_cons_succ, i64_w, i32_w]
    rfl
  refine pure_ (i := 20) (N := some 8) (v := ?_) (a' := ?_) #[true, true, true, true, true, true, true, true, true, true, true, true, true, true, true, true, true, true, true, true, true] rfl rfl (by kernel_rfl) (fun _ _ _ h => h) (Or.inl ⟨by rfl, ?_⟩) ?_ ?_
  rotate_left
  · intro w'
    go_simp
    with_reducible rfl
  rotate_left
  · simp only [Act.put, List.setIfInBounds_toArray, List.set_cons_zero, List.set_cons_succ, i64_w, i32_w]
    rfl
  refine done_ (by kernel_rfl) ?_
  go_wp2
  go_ret
  exact ⟨rfl, (HB.out.trans ((below_drew (Below.refl _ _)).mono HB.out.size)).trans (HB20.out.mono (by exact HB.out.size))⟩
set_option maxRecDepth 100000 in
set_option maxHeartbeats 8000000 in
theorem DiskSure_l (keep torn : Int) (A B : Option Addr) (c d : Nat) (a b : By) (w : World) (hca : CB w A a) (hcb : CB w B b) (ha : a.length ≤ 100) (hb : b.length ≤ 100) (hk : keep < 1) (ht : (b.length : Int) < torn) :
    Calls Try.prog 5 #[.slice A a.length c, .slice B b.length d, .int .i64 keep, .int .i64 torn] w fun e w' => e = .returned (.bool true) ∧ Below w.heap.size w w' := by
  have hml : b.length ≤ b.length := by omega
  have hlf : left a b keep torn = [(nF, a ++ b)] := by unfold left; rw [if_neg (by omega), if_neg (by omega), List.take_of_length_le (by omega)]
  have hcr := crash_left a b keep torn
  rw [hlf] at hcr
  have hok := left_ok a b keep torn ha hb
  rw [hlf] at hok
  have HNW := Aside0.mk (New_dk w 1000)
  rw [dS_new (by omega)] at HNW
  have e1 : appendR (dS [] [] 1000) nF a.length = 0 ∧ appendS (dS [] [] 1000) nF a = dS [] [wF a] 1000 := dS_app nF_good (full_no (.inr (by decide)) (by show ((0 : Nat) : Int) + _ ≤ _; omega))
  have e2 : syncS (dS [] [wF a] 1000) = dS [(nF, a)] [] 1000 := rfl
  have e3 : appendR (dS [(nF, a)] [] 1000) nF b.length = 0 ∧ appendS (dS [(nF, a)] [] 1000) nF b = dS [(nF, a)] [wF b] 1000 := dS_app nF_good (full_no (.inr (by show 1 < 16; omega)) (by show ((a.length + 0 : Nat) : Int) + _ ≤ _; omega))
  have e4 : renameR (dS [(nF, a)] [wF b] 1000) nF nG = 0 ∧ renameS (dS [(nF, a)] [wF b] 1000) nF nG = dS [(nF, a)] [wF b, rFG] 1000 := dS_ren nF_good nG_good rfl
  have e5 : readR (dS [(nF, a ++ b)] [] 1000) nF = 0 ∧ readB (dS [(nF, a ++ b)] [] 1000) nF = a ++ b := dS_read nF_good
  have e6 : readR (dS [(nF, a ++ b)] [] 1000) nG = 3 ∧ readB (dS [(nF, a ++ b)] [] 1000) nG = [] := dS_read nG_good
  have o1 := sure_ok [] [wF a] 1000 (by simp) (by simp) (by show 0 + (a.length + 0) ≤ _; omega) (fun _ h => by cases h) (fun w hw => .inl (by rw [List.mem_singleton.1 hw]; exact ⟨rfl, rfl⟩))
  have o2 := sure_ok [(nF, a)] [] 1000 (by simp) (by simp) (by show a.length + 0 + 0 ≤ _; omega) (fun p hp => .inl (by rw [List.mem_singleton.1 hp])) (fun _ h => by cases h)
  have o3 := sure_ok [(nF, a)] [wF b] 1000 (by simp) (by simp) (by show a.length + 0 + (b.length + 0) ≤ _; omega) (fun p hp => .inl (by rw [List.mem_singleton.1 hp])) (fun w hw => .inl (by rw [List.mem_singleton.1 hw]; exact ⟨rfl, rfl⟩))
  have o4 := sure_ok [(nF, a)] [wF b, rFG] 1000 (by simp) (by simp) (by show a.length + 0 + (b.length + (0 + 0)) ≤ _; omega) (fun p hp => .inl (by rw [List.mem_singleton.1 hp])) (fun w hw => by rcases List.mem_cons.1 hw with e | e; exact .inl (by rw [e]; exact ⟨rfl, rfl⟩); exact .inr (List.mem_singleton.1 e))
  have hap := mkS_app a b
  have hzs : (mkS a).size + (mkS b).size ≤ 9223372036854775807 := by show a.toArray.size + b.toArray.size ≤ _; simp; omega
  have E1 := Aside0.mk e1
  have E2 := Aside0.mk e2
  have E3 := Aside0.mk e3
  have E4 := Aside0.mk e4
  have E5 := Aside0.mk e5
  have E6 := Aside0.mk e6
  have O1 := Aside0.mk o1
  have O2 := Aside0.mk o2
  have O3 := Aside0.mk o3
  have O4 := Aside0.mk o4
  have HCR := Aside0.mk hcr
  have HOK := Aside0.mk hok
  have HCA := Aside0.mk hca
  have HCB := Aside0.mk hcb
  have hk2 : decide (2 ≤ keep) = false := decide_eq_false (by omega)
  have hk1 : (keep == 1) = false := by rw [beq_eq_false_iff_ne]; omega
  have ht1 : decide (torn < 0) = false := decide_eq_false (by omega)
  have ht3 : decide ((b.length : Int) < torn) = true := decide_eq_true ht
  have h1 : decide (100 < (a.length : Int)) = false := decide_eq_false (by omega)
  have h2 : decide (100 < (b.length : Int)) = false := decide_eq_false (by omega)
  clear e1 e2 e3 e4 e5 e6 o1 o2 o3 o4 hcr hok hca hcb hlf
  go_enter Try.func5, Try.ntmps5
  go_wp2_with fail
  refine HNW.out.mono ?_
  rintro e w1 ⟨p, rfl, hD1, hB1⟩
  have HB := Aside0.mk hB1
  have HT := Aside0.mk (hD1.app (newS_ok 1000 |> fun h => by rw [dS_new (by omega)] at h; exact h) nF nF_size A c a (Kd.C_below HCA.out hB1) (by unfold maxB; omega) E1.out.1 E1.out.2)
  clear hD1 hB1
  go_wp2_with fail
  refine HT.out.mono ?_
  rintro e w2 ⟨rfl, hD2, hB2⟩
  replace HB := Aside0.mk (HB.out.trans hB2)
  replace HT := Aside0.mk (hD2.syn O1.out dS_doneR E2.out)
  clear hD2 hB2
  go_wp2_with fail
  refine HT.out.mono ?_
  rintro e w3 ⟨rfl, hD3, hB3⟩
  replace HB := Aside0.mk (HB.out.trans hB3)
  replace HT := Aside0.mk (hD3.app O2.out nF nF_size B d b (Kd.C_below HCB.out HB.out) (by unfold maxB; omega) E3.out.1 E3.out.2)
  clear hD3 hB3
  go_wp2_with fail
  refine HT.out.mono ?_
  rintro e w4 ⟨rfl, hD4, hB4⟩
  replace HB := Aside0.mk (HB.out.trans hB4)
  replace HT := Aside0.mk (hD4.ren O3.out nF nG nF_size nG_size E4.out.1 E4.out.2)
  clear hD4 hB4
  go_wp2_with fail
  refine HT.out.mono ?_
  rintro e w5 ⟨rfl, hD5, hB5⟩
  replace HB := Aside0.mk (HB.out.trans hB5)
  replace HT := Aside0.mk (hD5.crash O4.out keep torn HCR.out)
  clear hD5 hB5
  go_wp2_with fail
  refine HT.out.mono ?_
  rintro e w6 ⟨rfl, hD6, hB6⟩
  replace HB := Aside0.mk (HB.out.trans hB6)
  replace HT := Aside0.mk (hD6.read2 HOK.out nF nF_size E5.out.1 E5.out.2)
  clear hD6 hB6
  have HW6 := Aside0.mk (show w.heap.size ≤ w6.heap.size from HB.out.size)
  go_wp2_with fail
  refine HT.out.mono ?_
  rintro e w7 ⟨A7, c7, rfl, hC7, hD7, hB7⟩
  replace HB := Aside0.mk (HB.out.trans (hB7.mono HB.out.size))
  have HC7 := Aside0.mk hC7
  replace HT := Aside0.mk (hD7.read2 HOK.out nG nG_size E6.out.1 E6.out.2)
  have HBq7 := Aside0.mk hB7
  have HW7 := Aside0.mk (show w.heap.size ≤ w7.heap.size from hD7.2)
  clear hC7 hD7 hB7
  go_wp2_with fail
  refine HT.out.mono ?_
  rintro e w8 ⟨A8, c8, rfl, hC8, hD8, hB8⟩
  replace HB := Aside0.mk (HB.out.trans (hB8.mono HB.out.size))
  have HC8 := Aside0.mk hC8
  have HBq8 := Aside0.mk hB8
  have hsa : (convert 27 9 (.slice A a.length c)).run Try.prog w8 = .ok (.string (mkS a)) w8 := to_string (Kd.C_below HCA.out HB.out) c
  have hsb : (convert 27 9 (.slice B b.length d)).run Try.prog w8 = .ok (.string (mkS b)) w8 := to_string (Kd.C_below HCB.out HB.out) d
  clear hC8 hD8 hB8
  go_wp2
  have hwr : wrap64 ((a.length : Int) + (b.length : Int)) = ((a.length : Int) + (b.length : Int)) := Go.IntWalk.wrap64_in _ (by omega)
  have hzw : (mkS (a ++ b)).size = a.length + b.length := by show (a ++ b).toArray.size = _; simp
  have hle : (a.length + b.length) ≤ (mkS (a ++ b)).size := by rw [hzw]; omega
  have hli : ((a.length : Int) + (b.length : Int)) ≤ ((mkS (a ++ b)).size : Int) := by rw [hzw]; omega
  have hex : (mkS (a ++ b)).extract 0 (a.length + b.length) = mkS (a ++ b) := (extract_str a b b.length).trans (by rw [List.take_length])
  have htn : ((a.length : Int) + (b.length : Int)).toNat = (a.length + b.length) := by omega
  have hpo : 0 ≤ ((a.length : Int) + (b.length : Int)) := by omega
  clear hzw
  refine start_ (n := 21) (S := fun w' => (convert 27 9 (.slice A7 (a.length + b.length) c7)).run Try.prog w' = .ok (.string (mkS (a ++ b))) w') (ds := []) #[false, false, false, false, false, false, false, false, false, false, false, false, false, false, false, false, false, false, false, false, false] (by kernel_rfl) rfl rfl ((by have := to_string (Kd.C_below (Kd.C_below HC7.out HBq8.out) (below_drew (Below.refl _ _))) c7; rw [show (a ++ b).length = (a.length + b.length) by rw [List.length_append]] at this; exact this)) (fun hHeld => ?_)
  refine one_ (i := 0) (N := some 98) #[true, false, false, false, false, false, false, false, false, false, false, false, false, false, false, false, false, false, false, false, false] rfl rfl (by kernel_rfl) (by decide) (fun K hK => ?_)
  refine goes_ Try.func13 (by kernel_rfl) rfl #[] (by rfl) rfl rfl (by simp only [List.map_toArray, List.map_nil]) ?_
  with_reducible refine ((answers_calls _)).mono ?_
  rintro e w20 ⟨rfl, hB20⟩
  refine ⟨_, rfl, ?_⟩
  have HB20 := Aside0.mk hB20
  clear hB20
  refine hK.out _ _ ((by have := to_string (Kd.C_below (Kd.C_below HC7.out HBq8.out) ((below_drew (Below.refl _ _)).trans HB20.out)) c7; rw [show (a ++ b).length = (a.length + b.length) by rw [List.length_append]] at this; exact this)) (fun hHeld => ?_)
  clear hK K
  refine norm_ (a' := ?_) ?_ ?_
  rotate_left
  · show Act.put _ (some 98) _ = _
    simp only [Act.put, List.setIfInBounds_toArray, List.set_cons_zero, List.set_cons_succ, i64_w, i32_w]
    rfl
  refine pure_ (i := 1) (N := some 99) (v := ?_) (a' := ?_) #[true, true, false, false, false, false, false, false, false, false, false, false, false, false, false, false, false, false, false, false, false] rfl rfl (by kernel_rfl) (fun _ _ _ h => h) (Or.inl ⟨by rfl, ?_⟩) ?_ ?_
  rotate_left
  · intro w'
    go_simp
    with_reducible rfl
  rotate_left
  · simp only [Act.put, List.setIfInBounds_toArray, List.set_cons_zero, List.set_cons_succ, i64_w, i32_w]
    rfl
  refine pure_ (i := 2) (N := some 100) (v := ?_) (a' := ?_) #[true, true, true, false, false, false, false, false, false, false, false, false, false, false, false, false, false, false, false, false, false] rfl rfl (by kernel_rfl) (fun _ _ _ h => h) (Or.inl ⟨by rfl, ?_⟩) ?_ ?_
  rotate_left
  · intro w'
    go_simp
    with_reducible rfl
  rotate_left
  · simp only [Act.put, List.setIfInBounds_toArray, List.set_cons_zero, List.set_cons_succ, i64_w, i32_w]
    rfl
  refine pure_ (i := 3) (N := some 101) (v := ?_) (a' := ?_) #[true, true, true, true, false, false, false, false, false, false, false, false, false, false, false, false, false, false, false, false, false] rfl rfl (by kernel_rfl) (fun _ _ _ h => h) (Or.inl ⟨by rfl, ?_⟩) ?_ ?_
  rotate_left
  · intro w'
    go_simp
    with_reducible rfl
  rotate_left
  · simp only [Act.put, List.setIfInBounds_toArray, List.set_cons_zero, List.set_cons_succ, i64_w, i32_w]
    rfl
  refine pure_ (i := 4) (N := some 102) (v := ?_) (a' := ?_) #[true, true, true, true, true, false, false, false, false, false, false, false, false, false, false, false, false, false, false, false, false] rfl rfl (by kernel_rfl) (fun _ _ _ h => h) (Or.inl ⟨by rfl, ?_⟩) ?_ ?_
  rotate_left
  · intro w'
    go_simp
    with_reducible rfl
  rotate_left
  · simp only [Act.put, List.setIfInBounds_toArray, List.set_cons_zero, List.set_cons_succ, i64_w, i32_w]
    rfl
  refine pure_ (i := 5) (N := some 103) (v := ?_) (a' := ?_) #[true, true, true, true, true, true, false, false, false, false, false, false, false, false, false, false, false, false, false, false, false] rfl rfl (by kernel_rfl) (fun _ _ _ h => h) (Or.inl ⟨by rfl, ?_⟩) ?_ ?_
  rotate_left
  · intro w'
    go_simp
    with_reducible rfl
  rotate_left
  · simp only [Act.put, List.setIfInBounds_toArray, List.set_cons_zero, List.set_cons_succ, i64_w, i32_w]
    rfl
  refine pure_ (i := 6) (N := some 104) (v := ?_) (a' := ?_) #[true, true, true, true, true, true, true, false, false, false, false, false, false, false, false, false, false, false, false, false, false] rfl rfl (by kernel_rfl) (fun _ _ _ h => h) (Or.inl ⟨by rfl, ?_⟩) ?_ ?_
  rotate_left
  · intro w'
    go_simp
    with_reducible rfl
  rotate_left
  · simp only [Act.put, List.setIfInBounds_toArray, List.set_cons_zero, List.set_cons_succ, i64_w, i32_w]
    rfl
  refine pure_ (i := 7) (N := some 105) (v := ?_) (a' := ?_) #[true, true, true, true, true, true, true, true, false, false, false, false, false, false, false, false, false, false, false, false, false] rfl rfl (by kernel_rfl) (fun _ _ _ h => h) (Or.inl ⟨by rfl, ?_⟩) ?_ ?_
  rotate_left
  · intro w'
    go_simp
    with_reducible rfl
  rotate_left
  · simp only [Act.put, List.setIfInBounds_toArray, List.set_cons_zero, List.set_cons_succ, i64_w, i32_w]
    rfl
  refine pure_ (i := 8) (N := some 106) (v := ?_) (a' := ?_) #[true, true, true, true, true, true, true, true, true, false, false, false, false, false, false, false, false, false, false, false, false] rfl rfl (by kernel_rfl) (fun _ _ _ h => h) (Or.inl ⟨by rfl, ?_⟩) ?_ ?_
  rotate_left
  · intro w'
    go_simp
    with_reducible rfl
  rotate_left
  · simp only [Act.put, List.setIfInBounds_toArray, List.set_cons_zero, List.set_cons_succ, i64_w, i32_w]
    rfl
  refine pure_ (i := 9) (N := some 107) (v := ?_) (a' := ?_) #[true, true, true, true, true, true, true, true, true, true, false, false, false, false, false, false, false, false, false, false, false] rfl rfl (by kernel_rfl) (fun _ _ _ h => h) (Or.inl ⟨by rfl, ?_⟩) ?_ ?_
  rotate_left
  · intro w'
    go_simp
    with_reducible rfl
  rotate_left
  · simp only [Act.put, List.setIfInBounds_toArray, List.set_cons_zero, List.set_cons_succ, i64_w, i32_w]
    rfl
  refine pure_ (i := 10) (N := some 108) (v := ?_) (a' := ?_) #[true, true, true, true, true, true, true, true, true, true, true, false, false, false, false, false, false, false, false, false, false] rfl rfl (by kernel_rfl) (fun _ _ _ h => h) (Or.inl ⟨by rfl, ?_⟩) ?_ ?_
  rotate_left
  · intro w'
    go_simp
    with_reducible rfl
  rotate_left
  · simp only [Act.put, List.setIfInBounds_toArray, List.set_cons_zero, List.set_cons_succ, i64_w, i32_w]
    rfl
  refine pure_ (i := 12) (N := some 110) (v := ?_) (a' := ?_) #[true, true, true, true, true, true, true, true, true, true, true, false, true, false, false, false, false, false, false, false, false] rfl rfl (by kernel_rfl) (fun _ _ _ h => h) (Or.inl ⟨by rfl, ?_⟩) ?_ ?_
  rotate_left
  · intro w'
    go_simp
    with_reducible rfl
  rotate_left
  · simp only [Act.put, List.setIfInBounds_toArray, List.set_cons_zero, List.set_cons_succ, i64_w, i32_w]
    rfl
  refine pure_ (i := 13) (N := some 111) (v := ?_) (a' := ?_) #[true, true, true, true, true, true, true, true, true, true, true, false, true, true, false, false, false, false, false, false, false] rfl rfl (by kernel_rfl) (fun _ _ _ h => h) (Or.inl ⟨by rfl, ?_⟩) ?_ ?_
  rotate_left
  · intro w'
    go_simp
    with_reducible rfl
  rotate_left
  · simp only [Act.put, List.setIfInBounds_toArray, List.set_cons_zero, List.set_cons_succ, i64_w, i32_w]
    rfl
  refine pure_ (i := 14) (N := some 112) (v := ?_) (a' := ?_) #[true, true, true, true, true, true, true, true, true, true, true, false, true, true, true, false, false, false, false, false, false] rfl rfl (by kernel_rfl) (fun _ _ _ h => h) (Or.inl ⟨by rfl, ?_⟩) ?_ ?_
  rotate_left
  · intro w'
    go_simp
    with_reducible rfl
  rotate_left
  · simp only [Act.put, List.setIfInBounds_toArray, List.set_cons_zero, List.set_cons_succ, i64_w, i32_w]
    rfl
  refine pure_ (i := 15) (N := some 113) (v := ?_) (a' := ?_) #[true, true, true, true, true, true, true, true, true, true, true, false, true, true, true, true, false, false, false, false, false] rfl rfl (by kernel_rfl) (fun _ _ _ h => h) (Or.inl ⟨by rfl, ?_⟩) ?_ ?_
  rotate_left
  · intro w'
    go_simp
    with_reducible rfl
  rotate_left
  · simp only [Act.put, List.setIfInBounds_toArray, List.set_cons_zero, List.set_cons_succ, i64_w, i32_w]
    rfl
  refine pure_ (i := 16) (N := some 114) (v := ?_) (a' := ?_) #[true, true, true, true, true, true, true, true, true, true, true, false, true, true, true, true, true, false, false, false, false] rfl rfl (by kernel_rfl) (fun _ _ _ h => h) (Or.inl ⟨by rfl, ?_⟩) ?_ ?_
  rotate_left
  · intro w'
    go_simp
    with_reducible rfl
  rotate_left
  · simp only [Act.put, List.setIfInBounds_toArray, List.set_cons_zero, List.set_cons_succ, i64_w, i32_w]
    rfl
  refine pure_ (i := 17) (N := some 115) (v := ?_) (a' := ?_) #[true, true, true, true, true, true, true, true, true, true, true, false, true, true, true, true, true, true, false, false, false] rfl rfl (by kernel_rfl) (fun _ _ _ h => h) (Or.inl ⟨by rfl, ?_⟩) ?_ ?_
  rotate_left
  · intro w'
    go_simp
    with_reducible rfl
  rotate_left
  · simp only [Act.put, List.setIfInBounds_toArray, List.set_cons_zero, List.set_cons_succ, i64_w, i32_w]
    rfl
  refine take_ (i := 11) (N := some 109) (v := ?_) (a' := ?_) #[true, true, true, true, true, true, true, true, true, true, true, true, true, true, true, true, true, true, false, false, false] rfl rfl (by kernel_rfl) (fun _ _ _ h => h) (Or.inl ⟨by rfl, ?_⟩) hHeld ?_ ?_
  rotate_left
  · intro w' s0
    go_simp
    with_reducible rfl
  rotate_left
  · simp only [Act.put, List.setIfInBounds_toArray, List.set_cons_zero, List.set_cons_succ, i64_w, i32_w]
    rfl
  refine pure_ (i := 18) (N := some 116) (v := ?_) (a' := ?_) #[true, true, true, true, true, true, true, true, true, true, true, true, true, true, true, true, true, true, true, false, false] rfl rfl (by kernel_rfl) (fun _ _ _ h => h) (Or.inl ⟨by rfl, ?_⟩) ?_ ?_
  rotate_left
  · intro w'
    go_simp
    with_reducible rfl
  rotate_left
  · simp only [Act.put, List.setIfInBounds_toArray, List.set_cons_zero, List.set_cons_succ, i64_w, i32_w]
    rfl
  refine pure_ (i := 19) (N := some 117) (v := ?_) (a' := ?_) #[true, true, true, true, true, true, true, true, true, true, true, true, true, true, true, true, true, true, true, true, false] rfl rfl (by kernel_rfl) (fun _ _ _ h => h) (Or.inl ⟨by rfl, ?_⟩) ?_ ?_
  rotate_left
  · intro w'
    go_simp
    with_reducible rfl
  rotate_left
  · simp only [Act.put, List.setIfInBounds_toArray, List.set_cons_zero, List.set_cons_succ, i64_w, i32_w]
    rfl
  refine pure_ (i := 20) (N := some 8) (v := ?_) (a' := ?_) #[true, true, true, true, true, true, true, true, true, true, true, true, true, true, true, true, true, true, true, true, true] rfl rfl (by kernel_rfl) (fun _ _ _ h => h) (Or.inl ⟨by rfl, ?_⟩) ?_ ?_
  rotate_left
  · intro w'
    go_simp
    with_reducible rfl
  rotate_left
  · simp only [Act.put, List.setIfInBounds_toArray, List.set_cons_zero, List.set_cons_succ, i64_w, i32_w]
    rfl
  refine done_ (by kernel_rfl) ?_
  go_wp2
  go_ret
  exact ⟨rfl, (HB.out.trans ((below_drew (Below.refl _ _)).mono HB.out.size)).trans (HB20.out.mono (by exact HB.out.size))⟩
theorem DiskSure_calls (keep torn : Int) (A B : Option Addr) (c d : Nat) (a b : By) (w : World) (hca : CB w A a) (hcb : CB w B b) :
    Calls Try.prog 5 #[.slice A a.length c, .slice B b.length d, .int .i64 keep, .int .i64 torn] w fun e w' => e = .returned (.bool true) ∧ Below w.heap.size w w' := by
  by_cases h : 100 < a.length ∨ 100 < b.length
  · exact DiskSure_far keep torn A B c d a b w h
  · by_cases h2 : 2 ≤ keep
    · exact DiskSure_g keep torn A B c d a b w hca hcb (by omega) (by omega) h2
    · by_cases h1 : keep = 1
      · exact DiskSure_f keep torn A B c d a b w hca hcb (by omega) (by omega) h1
      · by_cases ht : torn < 0
        · exact DiskSure_n keep torn A B c d a b w hca hcb (by omega) (by omega) (by omega) ht
        · by_cases hl : (b.length : Int) < torn
          · exact DiskSure_l keep torn A B c d a b w hca hcb (by omega) (by omega) (by omega) hl
          · exact DiskSure_m keep torn A B c d a b w hca hcb (by omega) (by omega) (by omega) (by omega) (by omega)
theorem DiskSure_row (keep torn : Int) (A B : Option Addr) (c d : Nat) (xs ys : List Int) (w : World) (hca : Kd.C (Kd.int .u8) w A xs.length xs) (hx : ∀ x ∈ xs, (Lit.int .u8 x).wf = true) (hcb : Kd.C (Kd.int .u8) w B ys.length ys) (hy : ∀ x ∈ ys, (Lit.int .u8 x).wf = true) :
    Calls Try.prog 5 #[.slice A xs.length c, .slice B ys.length d, .int .i64 keep, .int .i64 torn] w fun e w' => e = .returned (.bool true) ∧ Below w.heap.size w w' := by
  obtain ⟨a, rfl⟩ := nums_of xs hx
  obtain ⟨b, rfl⟩ := nums_of ys hy
  have := DiskSure_calls keep torn A B c d a b w hca hcb
  rw [nums_len, nums_len]
  exact this
end Go.Proofs.Ytiiomookhjpblaa.Hand
