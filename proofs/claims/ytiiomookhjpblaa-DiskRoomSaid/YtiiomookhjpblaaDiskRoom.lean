/- DiskRoom, walked by hand. -/
import Derived.Test.YtiiomookhjpblaaDiskPlain
namespace Go.Proofs.Ytiiomookhjpblaa.Hand
open Go.RowKit Go.Maps Go.Proofs.YtiiomookhjpblaaW.PrintWords Go.Proofs.YtiiomookhjpblaaW.PrintLast Go.Proofs.YtiiomookhjpblaaW.PrintMore
set_option linter.unusedVariables false
set_option linter.unusedSimpArgs false

def nB : ByteArray := ⟨#[98]⟩
def nC : ByteArray := ⟨#[99]⟩
theorem nB_size : nB.size ≤ maxLen := by unfold maxLen; decide
theorem nC_size : nC.size ≤ maxLen := by unfold maxLen; decide
theorem szA : nA.size ≤ 32 ∧ (⟨#[]⟩ : ByteArray).size ≤ 32 := by decide +kernel
theorem szB : nB.size ≤ 32 ∧ (⟨#[]⟩ : ByteArray).size ≤ 32 := by decide +kernel
theorem szC : nC.size ≤ 32 ∧ (⟨#[]⟩ : ByteArray).size ≤ 32 := by decide +kernel
theorem nA_good : goodName nA = true := by decide +kernel
theorem nB_good : goodName nB = true := by decide +kernel
theorem nC_good : goodName nC = true := by decide +kernel
def wA (b : By) : Wr := ⟨0, nA, ⟨#[]⟩, b⟩
def wB (b : By) : Wr := ⟨0, nB, ⟨#[]⟩, b⟩
def wC (b : By) : Wr := ⟨0, nC, ⟨#[]⟩, b⟩
def rA : Wr := ⟨2, nA, ⟨#[]⟩, []⟩
def rB : Wr := ⟨2, nB, ⟨#[]⟩, []⟩
/-- The two writes: those that fit. -/
def two (p q : Bool) (a b : By) : List Wr := (if p = true then [wA a] else []) ++ (if q = true then [wB b] else [])
def gone (p q : Bool) (a b : By) : List Wr := two p q a b ++ (if p = true then [rA] else []) ++ (if q = true then [rB] else [])
theorem room_ok (l : List Wr) (n : Int) (h2 : l.length ≤ 10) (h3 : looseB l ≤ 3000) (h5 : ∀ w ∈ l, w.frm.size ≤ 32 ∧ w.onto.size ≤ 32) : (dS [] l n).Ok :=
  dS_ok (Nat.zero_le _) (by unfold maxN; omega) (by show 0 + looseB l ≤ _; unfold maxB; omega) (fun _ h => by cases h) h5
theorem small_names (l : List Wr) (h : ∀ w ∈ l, w.frm = nA ∨ w.frm = nB ∨ w.frm = nC) (h2 : ∀ w ∈ l, w.onto = ⟨#[]⟩) : ∀ w ∈ l, w.frm.size ≤ 32 ∧ w.onto.size ≤ 32 := fun w hw => by
  rw [h2 w hw]
  rcases h w hw with e | e | e <;> rw [e] <;> decide
theorem gone_now (p q : Bool) (a b : By) : (gone p q a b).foldl doW [] = [] := by
  cases p <;> cases q <;> rfl
theorem two_now (p q : Bool) (a b : By) : (two p q a b).foldl doW [] = (if q = true then [(nB, b)] else []) ++ (if p = true then [(nA, a)] else []) := by
  cases p <;> cases q <;> rfl
theorem twoA_now (p q : Bool) (a b : By) : (two p q a b ++ (if p = true then [rA] else [])).foldl doW [] = (if q = true then [(nB, b)] else []) := by
  cases p <;> cases q <;> rfl
theorem two_used (p q : Bool) (a b : By) : used ((two p q a b).foldl doW []) = (if q = true then b.length else 0) + (if p = true then a.length else 0) := by
  rw [two_now]
  cases p <;> cases q <;> simp [used]
def zs (n : Nat) : By := List.replicate n 0
theorem zs_nums (n : Nat) : numsL (zs n) = List.replicate n 0 := by
  unfold numsL zs
  rw [List.map_replicate]
  rfl
theorem goneC_now (p q : Bool) (a b c : By) : (gone p q a b ++ [wC c]).foldl doW [] = [(nC, c)] := by
  rw [List.foldl_append, gone_now]
  rfl
theorem goneCC_now (p q : Bool) (a b c : By) : (gone p q a b ++ [wC c] ++ [wC []]).foldl doW [] = [(nC, c)] := by
  rw [List.foldl_append, goneC_now]
  show [(nC, c ++ [])] = _
  rw [List.append_nil]
theorem mem_two {p q : Bool} {a b : By} {w : Wr} (h : w ∈ two p q a b) : w = wA a ∨ w = wB b := by
  unfold two at h
  cases p <;> cases q <;> simp at h
  · exact .inr h
  · exact .inl h
  · exact h

theorem two_ok (p q : Bool) (a b : By) (n : Int) (ha : a.length ≤ 300) (hb : b.length ≤ 300) : (dS [] (two p q a b) n).Ok := by
  refine room_ok _ n ?_ ?_ (fun w hw => ?_)
  · cases p <;> cases q <;> simp [two]
  · cases p <;> cases q <;> simp [two, looseB, wA, wB] <;> omega
  · rcases mem_two hw with rfl | rfl <;> first | exact szA | exact szB | exact szC
theorem gone_ok (p q : Bool) (a b : By) (n : Int) (l : List Wr) (ha : a.length ≤ 300) (hb : b.length ≤ 300) (hl : l.length ≤ 2) (hlb : looseB l ≤ 600) (hw : ∀ w ∈ l, w.frm = nC ∧ w.onto = ⟨#[]⟩) : (dS [] (gone p q a b ++ l) n).Ok := by
  refine room_ok _ n ?_ ?_ (fun w h => ?_)
  · cases p <;> cases q <;> simp [gone, two] <;> omega
  · rw [looseB_append]
    have : looseB (gone p q a b) ≤ 600 := by cases p <;> cases q <;> simp [gone, two, looseB, wA, wB, rA, rB] <;> omega
    omega
  · rcases List.mem_append.1 h with h | h
    · have h2 : w = wA a ∨ w = wB b ∨ w = rA ∨ w = rB := by
        unfold gone at h
        rcases List.mem_append.1 h with h | h
        · rcases List.mem_append.1 h with h | h
          · rcases mem_two h with e | e
            · exact .inl e
            · exact .inr (.inl e)
          · cases p <;> simp at h
            exact .inr (.inr (.inl h))
        · cases q <;> simp at h
          exact .inr (.inr (.inr h))
      rcases h2 with rfl | rfl | rfl | rfl <;> first | exact szA | exact szB | exact szC
    · rw [(hw w h).1, (hw w h).2]
      first | exact szA | exact szB | exact szC
theorem twoA_ok (p q : Bool) (a b : By) (n : Int) (ha : a.length ≤ 300) (hb : b.length ≤ 300) : (dS [] (two p q a b ++ (if p = true then [rA] else [])) n).Ok := by
  refine room_ok _ n ?_ ?_ (fun w h => ?_)
  · cases p <;> cases q <;> simp [two]
  · cases p <;> cases q <;> simp [two, looseB, wA, wB, rA] <;> omega
  · have h2 : w = wA a ∨ w = wB b ∨ w = rA := by
      rcases List.mem_append.1 h with h | h
      · rcases mem_two h with e | e
        · exact .inl e
        · exact .inr (.inl e)
      · cases p <;> simp at h
        exact .inr (.inr h)
    rcases h2 with rfl | rfl | rfl <;> first | exact szA | exact szB | exact szC

set_option maxRecDepth 100000 in
set_option maxHeartbeats 8000000 in
theorem DiskRoom_far (n : Int) (A B : Option Addr) (c d : Nat) (a b : By) (w : World) (h : 300 < a.length ∨ 300 < b.length) :
    Calls Try.prog 4 #[.int .u8 n, .slice A a.length c, .slice B b.length d] w fun e w' => e = .returned (.bool true) ∧ Below w.heap.size w w' := by
  by_cases ha : 300 < a.length
  · have h1 : decide (300 < (a.length : Int)) = true := decide_eq_true (by omega)
    clear h ha
    go_enter Try.func4, Try.ntmps4
    go_wp2_with fail
    refine (answers_calls _).mono ?_
    rintro e w1 ⟨rfl, hB1⟩
    have HB1 := Aside0.mk hB1
    clear hB1
    go_wp2
    go_ret
    exact ⟨rfl, HB1.out⟩
  · have h1 : decide (300 < (a.length : Int)) = false := decide_eq_false (by omega)
    have h2 : decide (300 < (b.length : Int)) = true := decide_eq_true (by omega)
    clear h ha
    go_enter Try.func4, Try.ntmps4
    go_wp2_with fail
    refine (answers_calls _).mono ?_
    rintro e w1 ⟨rfl, hB1⟩
    have HB1 := Aside0.mk hB1
    clear hB1
    go_wp2
    go_ret
    exact ⟨rfl, HB1.out⟩
set_option maxRecDepth 100000 in
set_option maxHeartbeats 8000000 in
theorem DiskRoom_true_true (n : Nat) (A B : Option Addr) (c d : Nat) (a b : By) (w : World) (hn : n ≤ 255) (hca : CB w A a) (hcb : CB w B b) (ha : a.length ≤ 300) (hb : b.length ≤ 300) (hp : decide (a.length ≤ n) = true) (hq : decide ((if a.length ≤ n then a.length else 0) + b.length ≤ n) = true) :
    Calls Try.prog 4 #[.int .u8 (n : Int), .slice A a.length c, .slice B b.length d] w fun e w' => e = .returned (.bool true) ∧ Below w.heap.size w w' := by
  have hp' : a.length ≤ n := of_decide_eq_true hp
  rw [if_pos hp'] at hq
  have hq' : a.length + b.length ≤ n := of_decide_eq_true hq
  have HNW := Aside0.mk (New_dk w (n : Int))
  rw [dS_new (by omega)] at HNW
  have ea : appendR (dS [] [] n) nA a.length = 0 ∧ appendS (dS [] [] n) nA a = (dS [] (two true false a b) n) := dS_app nA_good (full_no (.inr (by decide)) (by show ((0 : Nat) : Int) + _ ≤ _; omega))
  have eb : appendR (dS [] (two true false a b) n) nB b.length = 0 ∧ appendS (dS [] (two true false a b) n) nB b = (dS [] (two true true a b) n) := dS_app nB_good (full_no (.inr (by rw [two_now]; simp)) (by rw [two_used]; show ((_ : Nat) : Int) + _ ≤ _; simp only [if_true, if_false, Bool.false_eq_true]; omega))
  have e3 : removeR (dS [] (two true true a b) n) nA = 0 ∧ removeS (dS [] (two true true a b) n) nA = (dS [] (two true true a b ++ [rA]) n) := dS_rem nA_good (by rw [two_now]; rfl)
  have e4 : removeR (dS [] (two true true a b ++ [rA]) n) nB = 0 ∧ removeS (dS [] (two true true a b ++ [rA]) n) nB = (dS [] (gone true true a b ++ []) n) := (dS_rem nB_good (by exact (congrArg (fun x => (look nB x).isSome) (twoA_now true true a b)).trans rfl)).imp id (fun h => h.trans rfl)
  have hg0 : (gone true true a b ++ []).foldl doW [] = [] := by rw [List.append_nil]; exact gone_now _ _ a b
  have e5 : appendR (dS [] (gone true true a b ++ []) n) nC (zs n).length = 0 ∧ appendS (dS [] (gone true true a b ++ []) n) nC (zs n) = (dS [] (gone true true a b ++ [wC (zs n)]) n) := (dS_app nC_good (full_no (.inr (by rw [hg0]; decide)) (by rw [hg0]; show ((0 : Nat) : Int) + _ ≤ _; unfold zs; rw [List.length_replicate]; omega))).imp id (fun h => h.trans (by rw [List.append_nil]; rfl))
  have hg1 := goneC_now true true a b (zs n)
  have hzl : (zs n).length = n := by unfold zs; rw [List.length_replicate]
  have hu1 : used ((gone true true a b ++ [wC (zs n)]).foldl doW []) = n := by rw [hg1]; show (zs n).length + 0 = n; omega
  have e6 : appendR (dS [] (gone true true a b ++ [wC (zs n)]) n) nC [(1 : UInt8)].length = 5 ∧ appendS (dS [] (gone true true a b ++ [wC (zs n)]) n) nC [1] = (dS [] (gone true true a b ++ [wC (zs n)]) n) := dS_full nC_good (full_yes (by rw [hu1]; show _ < (n : Int) + ((1 : Nat) : Int); omega))
  have e7 : appendR (dS [] (gone true true a b ++ [wC (zs n)]) n) nC ([] : By).length = 0 := (dS_app nC_good (full_no (.inl (by rw [hg1]; rfl)) (by rw [hu1]; show (n : Int) + ((0 : Nat) : Int) ≤ _; omega))).1
  have hu4 : used (dS [] (gone true true a b ++ []) n).now = 0 := by rw [dS_now, hg0]; rfl
  have hmk := print_make (P := Try.prog) 27 5 .u8 1 Try.underlying27 infoU8 (by omega) n (by omega)
  have EA := Aside0.mk ea
  have EB := Aside0.mk eb
  have E3 := Aside0.mk e3
  have E4 := Aside0.mk e4
  have E5 := Aside0.mk e5
  have E6 := Aside0.mk e6
  have E7 := Aside0.mk e7
  have HU4 := Aside0.mk hu4
  have HZL := Aside0.mk hzl
  have HP := Aside0.mk hp'
  have HQ := Aside0.mk hq'
  have HCA := Aside0.mk hca
  have HCB := Aside0.mk hcb
  have h1 : decide (300 < (a.length : Int)) = false := decide_eq_false (by omega)
  have h2 : decide (300 < (b.length : Int)) = false := decide_eq_false (by omega)
  have h3 : decide (a.length ≤ n) = true := hp
  have h3i : decide ((a.length : Int) ≤ (n : Int)) = true := by rw [← hp, decide_eq_decide]; omega
  have h4 : decide (a.length + b.length ≤ n) = true := hq
  have h4i : decide ((a.length : Int) + (b.length : Int) ≤ (n : Int)) = true := by rw [← hq, decide_eq_decide]; omega
  have HO2 := Aside0.mk (two_ok true true a b n ha hb)
  have HO1 := Aside0.mk (two_ok true false a b n ha hb)
  have HO3 := Aside0.mk (twoA_ok true true a b n ha hb)
  have HO4 := Aside0.mk (gone_ok true true a b n [] ha hb (by decide) (by decide) (fun _ h => by cases h))
  have HO5 := Aside0.mk (gone_ok true true a b n [wC (zs n)] ha hb (by simp) (by show (zs n).length + 0 ≤ _; omega) (fun w h => by rw [List.mem_singleton.1 h]; exact ⟨rfl, rfl⟩))
  clear ea eb e3 e4 e5 e6 e7 hu4 hzl hu1 hg0 hg1 hp hq hp' hq' hca hcb
  go_enter Try.func4, Try.ntmps4
  go_wp2_with fail
  refine HNW.out.mono ?_
  rintro e w1 ⟨p, rfl, hD1, hB1⟩
  have HT := Aside0.mk (hD1.app (newS_ok n |> fun h => by rw [dS_new (by omega)] at h; exact h) nA nA_size A c a (Kd.C_below HCA.out hB1) (by unfold maxB; omega) EA.out.1 EA.out.2)
  have HB := Aside0.mk hB1
  clear hD1 hB1
  go_wp2_with fail
  refine HT.out.mono ?_
  rintro e w2 ⟨rfl, hD2, hB2⟩
  replace HB := Aside0.mk (HB.out.trans hB2)
  replace HT := Aside0.mk (hD2.app HO1.out nB nB_size B d b (Kd.C_below HCB.out HB.out) (by unfold maxB; omega) EB.out.1 EB.out.2)
  clear hD2 hB2
  go_wp2_with fail
  refine HT.out.mono ?_
  rintro e w3 ⟨rfl, hD3, hB3⟩
  replace HB := Aside0.mk (HB.out.trans hB3)
  replace HT := Aside0.mk (hD3.rem HO2.out nA nA_size E3.out.1 E3.out.2)
  clear hD3 hB3
  go_wp2_with fail
  refine HT.out.mono ?_
  rintro e w4 ⟨rfl, hD4, hB4⟩
  replace HB := Aside0.mk (HB.out.trans hB4)
  replace HT := Aside0.mk (hD4.rem HO3.out nB nB_size E4.out.1 E4.out.2)
  clear hD4 hB4
  go_wp2_with fail
  refine HT.out.mono ?_
  rintro e w5 ⟨rfl, hD5, hB5⟩
  replace HB := Aside0.mk (HB.out.trans hB5)
  have HD5 := Aside0.mk hD5
  clear hD5 hB5 HT
  go_wp2_with fail
  refine (answers_calls w5).mono ?_
  rintro e w6 ⟨rfl, hB6⟩
  replace HB := Aside0.mk (HB.out.trans (hB6.mono HB.out.size))
  have HT := Aside0.mk ((HD5.out.below hB6).usd HO4.out HU4.out)
  clear hB6
  go_wp2_with fail
  refine HT.out.mono ?_
  rintro e w7 ⟨rfl, hD7, hB7⟩
  replace HB := Aside0.mk (HB.out.trans hB7)
  have hb8 := below_alloc (Below.refl w7.heap.size w7) (.cells (madeCells #[.int .u8 0] n) 5)
  have hc8 : CB (w7.alloc (.cells (madeCells #[.int .u8 0] n) 5)) (some ⟨w7.heap.size, 0, none⟩) (zs n) := by have := own_reads' (own_made w7 0 5 .u8 n (Nat.zero_le _) (by omega)); have h2 := Kd.C_of_reads (d := (0 : Int)) (h1 := fun _ => rfl) this; show Kd.C _ _ _ (numsL (zs n)).length (numsL (zs n)); rw [zs_nums, List.length_replicate]; exact h2
  replace HT := Aside0.mk ((hD7.below hb8).app HO4.out nC nC_size _ n (zs n) hc8 (by rw [HZL.out]; unfold maxB; omega) E5.out.1 E5.out.2)
  rw [HZL.out] at HT
  replace HB := Aside0.mk (HB.out.trans (hb8.mono HB.out.size))
  clear hD7 hB7 hb8 hc8
  go_wp2_with fail
  refine HT.out.mono ?_
  rintro e w9 ⟨rfl, hD9, hB9⟩
  replace HB := Aside0.mk (HB.out.trans hB9)
  have hb10 := below_alloc (Below.refl w9.heap.size w9) (.cells #[.int .u8 1] 5)
  have hc10 : CB (w9.alloc (.cells #[.int .u8 1] 5)) (some ⟨w9.heap.size, 0, none⟩) [1] := bytes_lit w9 [1] (by decide)
  replace HT := Aside0.mk ((hD9.below hb10).app HO5.out nC nC_size _ 1 [1] hc10 (by decide) E6.out.1 E6.out.2)
  replace HB := Aside0.mk (HB.out.trans (hb10.mono HB.out.size))
  clear hD9 hB9 hb10 hc10
  go_wp2_with fail
  refine HT.out.mono ?_
  rintro e w11 ⟨rfl, hD11, hB11⟩
  replace HB := Aside0.mk (HB.out.trans hB11)
  replace HT := Aside0.mk (hD11.app HO5.out nC nC_size none 0 [] (Kd.C_nil _ _) (by decide) E7.out rfl)
  clear hD11 hB11
  go_wp2_with fail
  refine HT.out.mono ?_
  rintro e w12 ⟨rfl, hD12, hB12⟩
  replace HB := Aside0.mk (HB.out.trans hB12)
  clear hD12 hB12
  go_wp2
  go_ret
  exact ⟨rfl, HB.out⟩
set_option maxRecDepth 100000 in
set_option maxHeartbeats 8000000 in
theorem DiskRoom_true_false (n : Nat) (A B : Option Addr) (c d : Nat) (a b : By) (w : World) (hn : n ≤ 255) (hca : CB w A a) (hcb : CB w B b) (ha : a.length ≤ 300) (hb : b.length ≤ 300) (hp : decide (a.length ≤ n) = true) (hq : decide ((if a.length ≤ n then a.length else 0) + b.length ≤ n) = false) :
    Calls Try.prog 4 #[.int .u8 (n : Int), .slice A a.length c, .slice B b.length d] w fun e w' => e = .returned (.bool true) ∧ Below w.heap.size w w' := by
  have hp' : a.length ≤ n := of_decide_eq_true hp
  rw [if_pos hp'] at hq
  have hq' : ¬ a.length + b.length ≤ n := of_decide_eq_false hq
  have HNW := Aside0.mk (New_dk w (n : Int))
  rw [dS_new (by omega)] at HNW
  have ea : appendR (dS [] [] n) nA a.length = 0 ∧ appendS (dS [] [] n) nA a = (dS [] (two true false a b) n) := dS_app nA_good (full_no (.inr (by decide)) (by show ((0 : Nat) : Int) + _ ≤ _; omega))
  have eb : appendR (dS [] (two true false a b) n) nB b.length = 5 ∧ appendS (dS [] (two true false a b) n) nB b = (dS [] (two true false a b) n) := dS_full nB_good (full_yes (by rw [two_used]; simp only [if_true, if_false, Bool.false_eq_true]; omega))
  have e3 : removeR (dS [] (two true false a b) n) nA = 0 ∧ removeS (dS [] (two true false a b) n) nA = (dS [] (two true false a b ++ [rA]) n) := dS_rem nA_good (by rw [two_now]; rfl)
  have e4 : removeR (dS [] (two true false a b ++ [rA]) n) nB = 3 ∧ removeS (dS [] (two true false a b ++ [rA]) n) nB = (dS [] (gone true false a b ++ []) n) := (dS_rem_none nB_good (by exact (congrArg (fun x => (look nB x).isSome) (twoA_now true false a b)).trans rfl)).imp id (fun h => h.trans rfl)
  have hg0 : (gone true false a b ++ []).foldl doW [] = [] := by rw [List.append_nil]; exact gone_now _ _ a b
  have e5 : appendR (dS [] (gone true false a b ++ []) n) nC (zs n).length = 0 ∧ appendS (dS [] (gone true false a b ++ []) n) nC (zs n) = (dS [] (gone true false a b ++ [wC (zs n)]) n) := (dS_app nC_good (full_no (.inr (by rw [hg0]; decide)) (by rw [hg0]; show ((0 : Nat) : Int) + _ ≤ _; unfold zs; rw [List.length_replicate]; omega))).imp id (fun h => h.trans (by rw [List.append_nil]; rfl))
  have hg1 := goneC_now true false a b (zs n)
  have hzl : (zs n).length = n := by unfold zs; rw [List.length_replicate]
  have hu1 : used ((gone true false a b ++ [wC (zs n)]).foldl doW []) = n := by rw [hg1]; show (zs n).length + 0 = n; omega
  have e6 : appendR (dS [] (gone true false a b ++ [wC (zs n)]) n) nC [(1 : UInt8)].length = 5 ∧ appendS (dS [] (gone true false a b ++ [wC (zs n)]) n) nC [1] = (dS [] (gone true false a b ++ [wC (zs n)]) n) := dS_full nC_good (full_yes (by rw [hu1]; show _ < (n : Int) + ((1 : Nat) : Int); omega))
  have e7 : appendR (dS [] (gone true false a b ++ [wC (zs n)]) n) nC ([] : By).length = 0 := (dS_app nC_good (full_no (.inl (by rw [hg1]; rfl)) (by rw [hu1]; show (n : Int) + ((0 : Nat) : Int) ≤ _; omega))).1
  have hu4 : used (dS [] (gone true false a b ++ []) n).now = 0 := by rw [dS_now, hg0]; rfl
  have hmk := print_make (P := Try.prog) 27 5 .u8 1 Try.underlying27 infoU8 (by omega) n (by omega)
  have EA := Aside0.mk ea
  have EB := Aside0.mk eb
  have E3 := Aside0.mk e3
  have E4 := Aside0.mk e4
  have E5 := Aside0.mk e5
  have E6 := Aside0.mk e6
  have E7 := Aside0.mk e7
  have HU4 := Aside0.mk hu4
  have HZL := Aside0.mk hzl
  have HP := Aside0.mk hp'
  have HQ := Aside0.mk hq'
  have HCA := Aside0.mk hca
  have HCB := Aside0.mk hcb
  have h1 : decide (300 < (a.length : Int)) = false := decide_eq_false (by omega)
  have h2 : decide (300 < (b.length : Int)) = false := decide_eq_false (by omega)
  have h3 : decide (a.length ≤ n) = true := hp
  have h3i : decide ((a.length : Int) ≤ (n : Int)) = true := by rw [← hp, decide_eq_decide]; omega
  have h4 : decide (a.length + b.length ≤ n) = false := hq
  have h4i : decide ((a.length : Int) + (b.length : Int) ≤ (n : Int)) = false := by rw [← hq, decide_eq_decide]; omega
  have HO2 := Aside0.mk (two_ok true false a b n ha hb)
  have HO1 := Aside0.mk (two_ok true false a b n ha hb)
  have HO3 := Aside0.mk (twoA_ok true false a b n ha hb)
  have HO4 := Aside0.mk (gone_ok true false a b n [] ha hb (by decide) (by decide) (fun _ h => by cases h))
  have HO5 := Aside0.mk (gone_ok true false a b n [wC (zs n)] ha hb (by simp) (by show (zs n).length + 0 ≤ _; omega) (fun w h => by rw [List.mem_singleton.1 h]; exact ⟨rfl, rfl⟩))
  clear ea eb e3 e4 e5 e6 e7 hu4 hzl hu1 hg0 hg1 hp hq hp' hq' hca hcb
  go_enter Try.func4, Try.ntmps4
  go_wp2_with fail
  refine HNW.out.mono ?_
  rintro e w1 ⟨p, rfl, hD1, hB1⟩
  have HT := Aside0.mk (hD1.app (newS_ok n |> fun h => by rw [dS_new (by omega)] at h; exact h) nA nA_size A c a (Kd.C_below HCA.out hB1) (by unfold maxB; omega) EA.out.1 EA.out.2)
  have HB := Aside0.mk hB1
  clear hD1 hB1
  go_wp2_with fail
  refine HT.out.mono ?_
  rintro e w2 ⟨rfl, hD2, hB2⟩
  replace HB := Aside0.mk (HB.out.trans hB2)
  replace HT := Aside0.mk (hD2.app HO1.out nB nB_size B d b (Kd.C_below HCB.out HB.out) (by unfold maxB; omega) EB.out.1 EB.out.2)
  clear hD2 hB2
  go_wp2_with fail
  refine HT.out.mono ?_
  rintro e w3 ⟨rfl, hD3, hB3⟩
  replace HB := Aside0.mk (HB.out.trans hB3)
  replace HT := Aside0.mk (hD3.rem HO2.out nA nA_size E3.out.1 E3.out.2)
  clear hD3 hB3
  go_wp2_with fail
  refine HT.out.mono ?_
  rintro e w4 ⟨rfl, hD4, hB4⟩
  replace HB := Aside0.mk (HB.out.trans hB4)
  replace HT := Aside0.mk (hD4.rem HO3.out nB nB_size E4.out.1 E4.out.2)
  clear hD4 hB4
  go_wp2_with fail
  refine HT.out.mono ?_
  rintro e w5 ⟨rfl, hD5, hB5⟩
  replace HB := Aside0.mk (HB.out.trans hB5)
  have HD5 := Aside0.mk hD5
  clear hD5 hB5 HT
  go_wp2_with fail
  refine (answers_calls w5).mono ?_
  rintro e w6 ⟨rfl, hB6⟩
  replace HB := Aside0.mk (HB.out.trans (hB6.mono HB.out.size))
  have HT := Aside0.mk ((HD5.out.below hB6).usd HO4.out HU4.out)
  clear hB6
  go_wp2_with fail
  refine HT.out.mono ?_
  rintro e w7 ⟨rfl, hD7, hB7⟩
  replace HB := Aside0.mk (HB.out.trans hB7)
  have hb8 := below_alloc (Below.refl w7.heap.size w7) (.cells (madeCells #[.int .u8 0] n) 5)
  have hc8 : CB (w7.alloc (.cells (madeCells #[.int .u8 0] n) 5)) (some ⟨w7.heap.size, 0, none⟩) (zs n) := by have := own_reads' (own_made w7 0 5 .u8 n (Nat.zero_le _) (by omega)); have h2 := Kd.C_of_reads (d := (0 : Int)) (h1 := fun _ => rfl) this; show Kd.C _ _ _ (numsL (zs n)).length (numsL (zs n)); rw [zs_nums, List.length_replicate]; exact h2
  replace HT := Aside0.mk ((hD7.below hb8).app HO4.out nC nC_size _ n (zs n) hc8 (by rw [HZL.out]; unfold maxB; omega) E5.out.1 E5.out.2)
  rw [HZL.out] at HT
  replace HB := Aside0.mk (HB.out.trans (hb8.mono HB.out.size))
  clear hD7 hB7 hb8 hc8
  go_wp2_with fail
  refine HT.out.mono ?_
  rintro e w9 ⟨rfl, hD9, hB9⟩
  replace HB := Aside0.mk (HB.out.trans hB9)
  have hb10 := below_alloc (Below.refl w9.heap.size w9) (.cells #[.int .u8 1] 5)
  have hc10 : CB (w9.alloc (.cells #[.int .u8 1] 5)) (some ⟨w9.heap.size, 0, none⟩) [1] := bytes_lit w9 [1] (by decide)
  replace HT := Aside0.mk ((hD9.below hb10).app HO5.out nC nC_size _ 1 [1] hc10 (by decide) E6.out.1 E6.out.2)
  replace HB := Aside0.mk (HB.out.trans (hb10.mono HB.out.size))
  clear hD9 hB9 hb10 hc10
  go_wp2_with fail
  refine HT.out.mono ?_
  rintro e w11 ⟨rfl, hD11, hB11⟩
  replace HB := Aside0.mk (HB.out.trans hB11)
  replace HT := Aside0.mk (hD11.app HO5.out nC nC_size none 0 [] (Kd.C_nil _ _) (by decide) E7.out rfl)
  clear hD11 hB11
  go_wp2_with fail
  refine HT.out.mono ?_
  rintro e w12 ⟨rfl, hD12, hB12⟩
  replace HB := Aside0.mk (HB.out.trans hB12)
  clear hD12 hB12
  go_wp2
  go_ret
  exact ⟨rfl, HB.out⟩
set_option maxRecDepth 100000 in
set_option maxHeartbeats 8000000 in
theorem DiskRoom_false_true (n : Nat) (A B : Option Addr) (c d : Nat) (a b : By) (w : World) (hn : n ≤ 255) (hca : CB w A a) (hcb : CB w B b) (ha : a.length ≤ 300) (hb : b.length ≤ 300) (hp : decide (a.length ≤ n) = false) (hq : decide ((if a.length ≤ n then a.length else 0) + b.length ≤ n) = true) :
    Calls Try.prog 4 #[.int .u8 (n : Int), .slice A a.length c, .slice B b.length d] w fun e w' => e = .returned (.bool true) ∧ Below w.heap.size w w' := by
  have hp' : ¬ a.length ≤ n := of_decide_eq_false hp
  rw [if_neg hp'] at hq
  have hq' : 0 + b.length ≤ n := of_decide_eq_true hq
  have HNW := Aside0.mk (New_dk w (n : Int))
  rw [dS_new (by omega)] at HNW
  have ea : appendR (dS [] [] n) nA a.length = 5 ∧ appendS (dS [] [] n) nA a = (dS [] (two false false a b) n) := dS_full nA_good (full_yes (by show _ < ((0 : Nat) : Int) + _; omega))
  have eb : appendR (dS [] (two false false a b) n) nB b.length = 0 ∧ appendS (dS [] (two false false a b) n) nB b = (dS [] (two false true a b) n) := dS_app nB_good (full_no (.inr (by rw [two_now]; simp)) (by rw [two_used]; show ((_ : Nat) : Int) + _ ≤ _; simp only [if_true, if_false, Bool.false_eq_true]; omega))
  have e3 : removeR (dS [] (two false true a b) n) nA = 3 ∧ removeS (dS [] (two false true a b) n) nA = (dS [] (two false true a b ++ []) n) := (dS_rem_none nA_good (by rw [two_now]; rfl)).imp id (fun h => h.trans (by rw [List.append_nil]))
  have e4 : removeR (dS [] (two false true a b ++ []) n) nB = 0 ∧ removeS (dS [] (two false true a b ++ []) n) nB = (dS [] (gone false true a b ++ []) n) := (dS_rem nB_good (by exact (congrArg (fun x => (look nB x).isSome) (twoA_now false true a b)).trans rfl)).imp id (fun h => h.trans rfl)
  have hg0 : (gone false true a b ++ []).foldl doW [] = [] := by rw [List.append_nil]; exact gone_now _ _ a b
  have e5 : appendR (dS [] (gone false true a b ++ []) n) nC (zs n).length = 0 ∧ appendS (dS [] (gone false true a b ++ []) n) nC (zs n) = (dS [] (gone false true a b ++ [wC (zs n)]) n) := (dS_app nC_good (full_no (.inr (by rw [hg0]; decide)) (by rw [hg0]; show ((0 : Nat) : Int) + _ ≤ _; unfold zs; rw [List.length_replicate]; omega))).imp id (fun h => h.trans (by rw [List.append_nil]; rfl))
  have hg1 := goneC_now false true a b (zs n)
  have hzl : (zs n).length = n := by unfold zs; rw [List.length_replicate]
  have hu1 : used ((gone false true a b ++ [wC (zs n)]).foldl doW []) = n := by rw [hg1]; show (zs n).length + 0 = n; omega
  have e6 : appendR (dS [] (gone false true a b ++ [wC (zs n)]) n) nC [(1 : UInt8)].length = 5 ∧ appendS (dS [] (gone false true a b ++ [wC (zs n)]) n) nC [1] = (dS [] (gone false true a b ++ [wC (zs n)]) n) := dS_full nC_good (full_yes (by rw [hu1]; show _ < (n : Int) + ((1 : Nat) : Int); omega))
  have e7 : appendR (dS [] (gone false true a b ++ [wC (zs n)]) n) nC ([] : By).length = 0 := (dS_app nC_good (full_no (.inl (by rw [hg1]; rfl)) (by rw [hu1]; show (n : Int) + ((0 : Nat) : Int) ≤ _; omega))).1
  have hu4 : used (dS [] (gone false true a b ++ []) n).now = 0 := by rw [dS_now, hg0]; rfl
  have hmk := print_make (P := Try.prog) 27 5 .u8 1 Try.underlying27 infoU8 (by omega) n (by omega)
  have EA := Aside0.mk ea
  have EB := Aside0.mk eb
  have E3 := Aside0.mk e3
  have E4 := Aside0.mk e4
  have E5 := Aside0.mk e5
  have E6 := Aside0.mk e6
  have E7 := Aside0.mk e7
  have HU4 := Aside0.mk hu4
  have HZL := Aside0.mk hzl
  have HP := Aside0.mk hp'
  have HQ := Aside0.mk hq'
  have HCA := Aside0.mk hca
  have HCB := Aside0.mk hcb
  have h1 : decide (300 < (a.length : Int)) = false := decide_eq_false (by omega)
  have h2 : decide (300 < (b.length : Int)) = false := decide_eq_false (by omega)
  have h3 : decide (a.length ≤ n) = false := hp
  have h3i : decide ((a.length : Int) ≤ (n : Int)) = false := by rw [← hp, decide_eq_decide]; omega
  have h4 : decide (b.length ≤ n) = true := by rw [← hq, decide_eq_decide]; omega
  have h4i : decide ((b.length : Int) ≤ (n : Int)) = true := by rw [← hq, decide_eq_decide]; omega
  have HO2 := Aside0.mk (two_ok false true a b n ha hb)
  have HO1 := Aside0.mk (two_ok false false a b n ha hb)
  have HO3 := Aside0.mk (twoA_ok false true a b n ha hb)
  have HO4 := Aside0.mk (gone_ok false true a b n [] ha hb (by decide) (by decide) (fun _ h => by cases h))
  have HO5 := Aside0.mk (gone_ok false true a b n [wC (zs n)] ha hb (by simp) (by show (zs n).length + 0 ≤ _; omega) (fun w h => by rw [List.mem_singleton.1 h]; exact ⟨rfl, rfl⟩))
  clear ea eb e3 e4 e5 e6 e7 hu4 hzl hu1 hg0 hg1 hp hq hp' hq' hca hcb
  go_enter Try.func4, Try.ntmps4
  go_wp2_with fail
  refine HNW.out.mono ?_
  rintro e w1 ⟨p, rfl, hD1, hB1⟩
  have HT := Aside0.mk (hD1.app (newS_ok n |> fun h => by rw [dS_new (by omega)] at h; exact h) nA nA_size A c a (Kd.C_below HCA.out hB1) (by unfold maxB; omega) EA.out.1 EA.out.2)
  have HB := Aside0.mk hB1
  clear hD1 hB1
  go_wp2_with fail
  refine HT.out.mono ?_
  rintro e w2 ⟨rfl, hD2, hB2⟩
  replace HB := Aside0.mk (HB.out.trans hB2)
  replace HT := Aside0.mk (hD2.app HO1.out nB nB_size B d b (Kd.C_below HCB.out HB.out) (by unfold maxB; omega) EB.out.1 EB.out.2)
  clear hD2 hB2
  go_wp2_with fail
  refine HT.out.mono ?_
  rintro e w3 ⟨rfl, hD3, hB3⟩
  replace HB := Aside0.mk (HB.out.trans hB3)
  replace HT := Aside0.mk (hD3.rem HO2.out nA nA_size E3.out.1 E3.out.2)
  clear hD3 hB3
  go_wp2_with fail
  refine HT.out.mono ?_
  rintro e w4 ⟨rfl, hD4, hB4⟩
  replace HB := Aside0.mk (HB.out.trans hB4)
  replace HT := Aside0.mk (hD4.rem HO3.out nB nB_size E4.out.1 E4.out.2)
  clear hD4 hB4
  go_wp2_with fail
  refine HT.out.mono ?_
  rintro e w5 ⟨rfl, hD5, hB5⟩
  replace HB := Aside0.mk (HB.out.trans hB5)
  have HD5 := Aside0.mk hD5
  clear hD5 hB5 HT
  go_wp2_with fail
  refine (answers_calls w5).mono ?_
  rintro e w6 ⟨rfl, hB6⟩
  replace HB := Aside0.mk (HB.out.trans (hB6.mono HB.out.size))
  have HT := Aside0.mk ((HD5.out.below hB6).usd HO4.out HU4.out)
  clear hB6
  go_wp2_with fail
  refine HT.out.mono ?_
  rintro e w7 ⟨rfl, hD7, hB7⟩
  replace HB := Aside0.mk (HB.out.trans hB7)
  have hb8 := below_alloc (Below.refl w7.heap.size w7) (.cells (madeCells #[.int .u8 0] n) 5)
  have hc8 : CB (w7.alloc (.cells (madeCells #[.int .u8 0] n) 5)) (some ⟨w7.heap.size, 0, none⟩) (zs n) := by have := own_reads' (own_made w7 0 5 .u8 n (Nat.zero_le _) (by omega)); have h2 := Kd.C_of_reads (d := (0 : Int)) (h1 := fun _ => rfl) this; show Kd.C _ _ _ (numsL (zs n)).length (numsL (zs n)); rw [zs_nums, List.length_replicate]; exact h2
  replace HT := Aside0.mk ((hD7.below hb8).app HO4.out nC nC_size _ n (zs n) hc8 (by rw [HZL.out]; unfold maxB; omega) E5.out.1 E5.out.2)
  rw [HZL.out] at HT
  replace HB := Aside0.mk (HB.out.trans (hb8.mono HB.out.size))
  clear hD7 hB7 hb8 hc8
  go_wp2_with fail
  refine HT.out.mono ?_
  rintro e w9 ⟨rfl, hD9, hB9⟩
  replace HB := Aside0.mk (HB.out.trans hB9)
  have hb10 := below_alloc (Below.refl w9.heap.size w9) (.cells #[.int .u8 1] 5)
  have hc10 : CB (w9.alloc (.cells #[.int .u8 1] 5)) (some ⟨w9.heap.size, 0, none⟩) [1] := bytes_lit w9 [1] (by decide)
  replace HT := Aside0.mk ((hD9.below hb10).app HO5.out nC nC_size _ 1 [1] hc10 (by decide) E6.out.1 E6.out.2)
  replace HB := Aside0.mk (HB.out.trans (hb10.mono HB.out.size))
  clear hD9 hB9 hb10 hc10
  go_wp2_with fail
  refine HT.out.mono ?_
  rintro e w11 ⟨rfl, hD11, hB11⟩
  replace HB := Aside0.mk (HB.out.trans hB11)
  replace HT := Aside0.mk (hD11.app HO5.out nC nC_size none 0 [] (Kd.C_nil _ _) (by decide) E7.out rfl)
  clear hD11 hB11
  go_wp2_with fail
  refine HT.out.mono ?_
  rintro e w12 ⟨rfl, hD12, hB12⟩
  replace HB := Aside0.mk (HB.out.trans hB12)
  clear hD12 hB12
  go_wp2
  go_ret
  exact ⟨rfl, HB.out⟩
set_option maxRecDepth 100000 in
set_option maxHeartbeats 8000000 in
theorem DiskRoom_false_false (n : Nat) (A B : Option Addr) (c d : Nat) (a b : By) (w : World) (hn : n ≤ 255) (hca : CB w A a) (hcb : CB w B b) (ha : a.length ≤ 300) (hb : b.length ≤ 300) (hp : decide (a.length ≤ n) = false) (hq : decide ((if a.length ≤ n then a.length else 0) + b.length ≤ n) = false) :
    Calls Try.prog 4 #[.int .u8 (n : Int), .slice A a.length c, .slice B b.length d] w fun e w' => e = .returned (.bool true) ∧ Below w.heap.size w w' := by
  have hp' : ¬ a.length ≤ n := of_decide_eq_false hp
  rw [if_neg hp'] at hq
  have hq' : ¬ 0 + b.length ≤ n := of_decide_eq_false hq
  have HNW := Aside0.mk (New_dk w (n : Int))
  rw [dS_new (by omega)] at HNW
  have ea : appendR (dS [] [] n) nA a.length = 5 ∧ appendS (dS [] [] n) nA a = (dS [] (two false false a b) n) := dS_full nA_good (full_yes (by show _ < ((0 : Nat) : Int) + _; omega))
  have eb : appendR (dS [] (two false false a b) n) nB b.length = 5 ∧ appendS (dS [] (two false false a b) n) nB b = (dS [] (two false false a b) n) := dS_full nB_good (full_yes (by rw [two_used]; simp only [if_true, if_false, Bool.false_eq_true]; omega))
  have e3 : removeR (dS [] (two false false a b) n) nA = 3 ∧ removeS (dS [] (two false false a b) n) nA = (dS [] (two false false a b ++ []) n) := (dS_rem_none nA_good (by rw [two_now]; rfl)).imp id (fun h => h.trans (by rw [List.append_nil]))
  have e4 : removeR (dS [] (two false false a b ++ []) n) nB = 3 ∧ removeS (dS [] (two false false a b ++ []) n) nB = (dS [] (gone false false a b ++ []) n) := (dS_rem_none nB_good (by exact (congrArg (fun x => (look nB x).isSome) (twoA_now false false a b)).trans rfl)).imp id (fun h => h.trans rfl)
  have hg0 : (gone false false a b ++ []).foldl doW [] = [] := by rw [List.append_nil]; exact gone_now _ _ a b
  have e5 : appendR (dS [] (gone false false a b ++ []) n) nC (zs n).length = 0 ∧ appendS (dS [] (gone false false a b ++ []) n) nC (zs n) = (dS [] (gone false false a b ++ [wC (zs n)]) n) := (dS_app nC_good (full_no (.inr (by rw [hg0]; decide)) (by rw [hg0]; show ((0 : Nat) : Int) + _ ≤ _; unfold zs; rw [List.length_replicate]; omega))).imp id (fun h => h.trans (by rw [List.append_nil]; rfl))
  have hg1 := goneC_now false false a b (zs n)
  have hzl : (zs n).length = n := by unfold zs; rw [List.length_replicate]
  have hu1 : used ((gone false false a b ++ [wC (zs n)]).foldl doW []) = n := by rw [hg1]; show (zs n).length + 0 = n; omega
  have e6 : appendR (dS [] (gone false false a b ++ [wC (zs n)]) n) nC [(1 : UInt8)].length = 5 ∧ appendS (dS [] (gone false false a b ++ [wC (zs n)]) n) nC [1] = (dS [] (gone false false a b ++ [wC (zs n)]) n) := dS_full nC_good (full_yes (by rw [hu1]; show _ < (n : Int) + ((1 : Nat) : Int); omega))
  have e7 : appendR (dS [] (gone false false a b ++ [wC (zs n)]) n) nC ([] : By).length = 0 := (dS_app nC_good (full_no (.inl (by rw [hg1]; rfl)) (by rw [hu1]; show (n : Int) + ((0 : Nat) : Int) ≤ _; omega))).1
  have hu4 : used (dS [] (gone false false a b ++ []) n).now = 0 := by rw [dS_now, hg0]; rfl
  have hmk := print_make (P := Try.prog) 27 5 .u8 1 Try.underlying27 infoU8 (by omega) n (by omega)
  have EA := Aside0.mk ea
  have EB := Aside0.mk eb
  have E3 := Aside0.mk e3
  have E4 := Aside0.mk e4
  have E5 := Aside0.mk e5
  have E6 := Aside0.mk e6
  have E7 := Aside0.mk e7
  have HU4 := Aside0.mk hu4
  have HZL := Aside0.mk hzl
  have HP := Aside0.mk hp'
  have HQ := Aside0.mk hq'
  have HCA := Aside0.mk hca
  have HCB := Aside0.mk hcb
  have h1 : decide (300 < (a.length : Int)) = false := decide_eq_false (by omega)
  have h2 : decide (300 < (b.length : Int)) = false := decide_eq_false (by omega)
  have h3 : decide (a.length ≤ n) = false := hp
  have h3i : decide ((a.length : Int) ≤ (n : Int)) = false := by rw [← hp, decide_eq_decide]; omega
  have h4 : decide (b.length ≤ n) = false := by rw [← hq, decide_eq_decide]; omega
  have h4i : decide ((b.length : Int) ≤ (n : Int)) = false := by rw [← hq, decide_eq_decide]; omega
  have HO2 := Aside0.mk (two_ok false false a b n ha hb)
  have HO1 := Aside0.mk (two_ok false false a b n ha hb)
  have HO3 := Aside0.mk (twoA_ok false false a b n ha hb)
  have HO4 := Aside0.mk (gone_ok false false a b n [] ha hb (by decide) (by decide) (fun _ h => by cases h))
  have HO5 := Aside0.mk (gone_ok false false a b n [wC (zs n)] ha hb (by simp) (by show (zs n).length + 0 ≤ _; omega) (fun w h => by rw [List.mem_singleton.1 h]; exact ⟨rfl, rfl⟩))
  clear ea eb e3 e4 e5 e6 e7 hu4 hzl hu1 hg0 hg1 hp hq hp' hq' hca hcb
  go_enter Try.func4, Try.ntmps4
  go_wp2_with fail
  refine HNW.out.mono ?_
  rintro e w1 ⟨p, rfl, hD1, hB1⟩
  have HT := Aside0.mk (hD1.app (newS_ok n |> fun h => by rw [dS_new (by omega)] at h; exact h) nA nA_size A c a (Kd.C_below HCA.out hB1) (by unfold maxB; omega) EA.out.1 EA.out.2)
  have HB := Aside0.mk hB1
  clear hD1 hB1
  go_wp2_with fail
  refine HT.out.mono ?_
  rintro e w2 ⟨rfl, hD2, hB2⟩
  replace HB := Aside0.mk (HB.out.trans hB2)
  replace HT := Aside0.mk (hD2.app HO1.out nB nB_size B d b (Kd.C_below HCB.out HB.out) (by unfold maxB; omega) EB.out.1 EB.out.2)
  clear hD2 hB2
  go_wp2_with fail
  refine HT.out.mono ?_
  rintro e w3 ⟨rfl, hD3, hB3⟩
  replace HB := Aside0.mk (HB.out.trans hB3)
  replace HT := Aside0.mk (hD3.rem HO2.out nA nA_size E3.out.1 E3.out.2)
  clear hD3 hB3
  go_wp2_with fail
  refine HT.out.mono ?_
  rintro e w4 ⟨rfl, hD4, hB4⟩
  replace HB := Aside0.mk (HB.out.trans hB4)
  replace HT := Aside0.mk (hD4.rem HO3.out nB nB_size E4.out.1 E4.out.2)
  clear hD4 hB4
  go_wp2_with fail
  refine HT.out.mono ?_
  rintro e w5 ⟨rfl, hD5, hB5⟩
  replace HB := Aside0.mk (HB.out.trans hB5)
  have HD5 := Aside0.mk hD5
  clear hD5 hB5 HT
  go_wp2_with fail
  refine (answers_calls w5).mono ?_
  rintro e w6 ⟨rfl, hB6⟩
  replace HB := Aside0.mk (HB.out.trans (hB6.mono HB.out.size))
  have HT := Aside0.mk ((HD5.out.below hB6).usd HO4.out HU4.out)
  clear hB6
  go_wp2_with fail
  refine HT.out.mono ?_
  rintro e w7 ⟨rfl, hD7, hB7⟩
  replace HB := Aside0.mk (HB.out.trans hB7)
  have hb8 := below_alloc (Below.refl w7.heap.size w7) (.cells (madeCells #[.int .u8 0] n) 5)
  have hc8 : CB (w7.alloc (.cells (madeCells #[.int .u8 0] n) 5)) (some ⟨w7.heap.size, 0, none⟩) (zs n) := by have := own_reads' (own_made w7 0 5 .u8 n (Nat.zero_le _) (by omega)); have h2 := Kd.C_of_reads (d := (0 : Int)) (h1 := fun _ => rfl) this; show Kd.C _ _ _ (numsL (zs n)).length (numsL (zs n)); rw [zs_nums, List.length_replicate]; exact h2
  replace HT := Aside0.mk ((hD7.below hb8).app HO4.out nC nC_size _ n (zs n) hc8 (by rw [HZL.out]; unfold maxB; omega) E5.out.1 E5.out.2)
  rw [HZL.out] at HT
  replace HB := Aside0.mk (HB.out.trans (hb8.mono HB.out.size))
  clear hD7 hB7 hb8 hc8
  go_wp2_with fail
  refine HT.out.mono ?_
  rintro e w9 ⟨rfl, hD9, hB9⟩
  replace HB := Aside0.mk (HB.out.trans hB9)
  have hb10 := below_alloc (Below.refl w9.heap.size w9) (.cells #[.int .u8 1] 5)
  have hc10 : CB (w9.alloc (.cells #[.int .u8 1] 5)) (some ⟨w9.heap.size, 0, none⟩) [1] := bytes_lit w9 [1] (by decide)
  replace HT := Aside0.mk ((hD9.below hb10).app HO5.out nC nC_size _ 1 [1] hc10 (by decide) E6.out.1 E6.out.2)
  replace HB := Aside0.mk (HB.out.trans (hb10.mono HB.out.size))
  clear hD9 hB9 hb10 hc10
  go_wp2_with fail
  refine HT.out.mono ?_
  rintro e w11 ⟨rfl, hD11, hB11⟩
  replace HB := Aside0.mk (HB.out.trans hB11)
  replace HT := Aside0.mk (hD11.app HO5.out nC nC_size none 0 [] (Kd.C_nil _ _) (by decide) E7.out rfl)
  clear hD11 hB11
  go_wp2_with fail
  refine HT.out.mono ?_
  rintro e w12 ⟨rfl, hD12, hB12⟩
  replace HB := Aside0.mk (HB.out.trans hB12)
  clear hD12 hB12
  go_wp2
  go_ret
  exact ⟨rfl, HB.out⟩
theorem DiskRoom_calls (n : Int) (A B : Option Addr) (c d : Nat) (a b : By) (w : World) (hn0 : 0 ≤ n) (hn : n ≤ 255) (hca : CB w A a) (hcb : CB w B b) :
    Calls Try.prog 4 #[.int .u8 n, .slice A a.length c, .slice B b.length d] w fun e w' => e = .returned (.bool true) ∧ Below w.heap.size w w' := by
  by_cases h : 300 < a.length ∨ 300 < b.length
  · exact DiskRoom_far n A B c d a b w h
  · obtain ⟨n, rfl⟩ := Int.eq_ofNat_of_zero_le hn0
    cases hp : decide (a.length ≤ n) <;> cases hq : decide ((if a.length ≤ n then a.length else 0) + b.length ≤ n)
    · exact DiskRoom_false_false n A B c d a b w (by omega) hca hcb (by omega) (by omega) hp hq
    · exact DiskRoom_false_true n A B c d a b w (by omega) hca hcb (by omega) (by omega) hp hq
    · exact DiskRoom_true_false n A B c d a b w (by omega) hca hcb (by omega) (by omega) hp hq
    · exact DiskRoom_true_true n A B c d a b w (by omega) hca hcb (by omega) (by omega) hp hq
theorem DiskRoom_row (n : Int) (A B : Option Addr) (c d : Nat) (xs ys : List Int) (w : World) (hn : (Lit.int .u8 n).wf = true) (hca : Kd.C (Kd.int .u8) w A xs.length xs) (hx : ∀ x ∈ xs, (Lit.int .u8 x).wf = true) (hcb : Kd.C (Kd.int .u8) w B ys.length ys) (hy : ∀ x ∈ ys, (Lit.int .u8 x).wf = true) :
    Calls Try.prog 4 #[.int .u8 n, .slice A xs.length c, .slice B ys.length d] w fun e w' => e = .returned (.bool true) ∧ Below w.heap.size w w' := by
  obtain ⟨a, rfl⟩ := nums_of xs hx
  obtain ⟨b, rfl⟩ := nums_of ys hy
  have := DiskRoom_calls n A B c d a b w (u8_range hn).1 (u8_range hn).2 hca hcb
  rw [nums_len, nums_len]
  exact this
end Go.Proofs.Ytiiomookhjpblaa.Hand
