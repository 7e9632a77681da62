/- DiskMany, walked by hand. -/
import Derived.Test.YtiiomookhjpblaaDiskPlain
import Derived.Test.YtiiomookhjpblaaIterT
namespace Go.Proofs.Ytiiomookhjpblaa.Hand
open Go.RowKit Go.Maps Go.Proofs.YtiiomookhjpblaaW.PrintWords Go.Proofs.YtiiomookhjpblaaW.PrintLast Go.Proofs.YtiiomookhjpblaaW.PrintMore
set_option linter.unusedVariables false
set_option linter.unusedSimpArgs false
theorem FilesAt.owns {w : World} {F : Nat → Prop} {b : Nat} {fs : Fs} (h : FilesAt w F b fs) : ∃ es : List (Lit × DataW Value), w.ownsMap Try.prog 9 heldR b fs.length (.map es) ∧ es.length = fs.length := by
  obtain ⟨L, ⟨es, ho, hp, hn⟩, h2, _⟩ := h
  have hl : (L.map (fun x : En => (x.1, x.2.1))).length = fs.length := by rw [List.length_map, ← h2.length_eq, List.length_map]
  rw [hl] at ho
  exact ⟨es, ho, by rw [hp.length_eq, List.length_map, hl]⟩
set_option maxHeartbeats 8000000 in
theorem Names_calls (w : World) (F : Nat → Prop) (p bn bs : Nat) (vl : Value) (st : DSt) (h : DskAt w F p bn bs vl st) (hd : st.down = false) (hl : st.now.length ≤ 1000000) :
    Calls Try.prog 18 #[.pointer (some ⟨p, 0, none⟩)] w fun e w' => ∃ A c, e = .returned (.slice A st.now.length c) ∧ Below w.heap.size w w' := by
  obtain ⟨es, ho, hes⟩ := h.now.owns
  have hz0 := (blk_cell h.cell 0).trans rfl
  have hz5 : w.cell? ⟨p, 5, none⟩ = some (.bool st.down) := (blk_cell h.cell 5).trans rfl
  rw [hd] at hz5
  have hsz : Maps.size (DataW.map es) = st.now.length := by rw [Maps.size_eq, hes]
  have HK := Aside0.mk ((callsIn_wide (n := 5)).1 (Try.maps_Keys_28 (some bn) w))
  have HS := Aside0.mk ((callsIn_wide (n := 5)).1 (Try.slices_Sorted_keys_27_28 bn _ _ heldR w ho (by rw [hsz]; unfold maxLen; omega) (by rw [hsz]; omega)))
  have hlen : ∀ ss : List (List UInt8), ss.Perm (strKeys (DataW.map es)) → ss.length = st.now.length := fun ss hp => by
    rw [hp.length_eq, ← hes]
    show (es.map _).length = _
    rw [List.length_map]
  have HL := Aside0.mk hlen
  clear h ho hsz hlen
  go_enter Try.func18, Try.ntmps18
  go_wp2_with fail
  refine HK.out.mono ?_
  rintro e w1 ⟨rfl, rfl⟩
  go_wp2_with fail
  refine HS.out.mono ?_
  rintro e w2 ⟨v, ss, rfl, hp, hrow, _, hb⟩
  obtain ⟨A, c, rfl⟩ := own_slice hrow
  have HP := Aside0.mk (HL.out ss hp)
  have HB := Aside0.mk (below_step (below_alloc (Below.refl w.heap.size w) _) hb)
  clear hp hrow hb
  go_wp2
  go_ret
  exact ⟨A, c, by rw [← HP.out]; rfl, HB.out⟩
theorem Dk.nam {w : World} {base p : Nat} {st : DSt} {n : Nat} (h : Dk w base p st) (hd : st.down = false) (hn : st.now.length = n) (hl : n ≤ 1000000) :
    Calls Try.prog 18 #[.pointer (some ⟨p, 0, none⟩)] w fun e w' => ∃ A c, e = .returned (.slice A n c) ∧ Dk w' base p st ∧ Below base w w' := by
  subst hn
  obtain ⟨⟨bn, bs, vl, h1⟩, h2⟩ := h
  exact (Names_calls w _ p bn bs vl st h1 hd hl).mono fun e w' ⟨A, c, e1, hb⟩ => ⟨A, c, e1, Dk.below ⟨⟨bn, bs, vl, h1⟩, h2⟩ hb, hb.mono h2⟩
def nI (i : Nat) : ByteArray := ⟨#[UInt8.ofNat (97 + i)]⟩
def wI (i : Nat) : Wr := ⟨0, nI i, ⟨#[]⟩, [1]⟩
def mL (m : Nat) : List Wr := (List.range m).map wI
def mS (i : Nat) : DSt := dS [] (mL (min i 16)) 1000
theorem mL_succ (m : Nat) : mL (m + 1) = mL m ++ [wI m] := by unfold mL; rw [List.range_succ, List.map_append]; rfl
theorem nI_good : ∀ i : Fin 26, goodName (nI i.val) = true := by decide +kernel
theorem mFull1 : ∀ i : Fin 16, fullB (dS [] (mL i.val) 1000) (nI i.val) 1 = false := by decide +kernel
theorem mFull2 : ∀ i : Fin 26, 16 ≤ i.val → fullB (dS [] (mL 16) 1000) (nI i.val) 1 = true := by decide +kernel
theorem mNow : ∀ i : Fin 17, ((mL i.val).foldl doW []).length = i.val ∧ used ((mL i.val).foldl doW []) = i.val := by decide +kernel
theorem mLook : ∀ i : Fin 17, 0 < i.val → (look (nI 0) ((mL i.val).foldl doW [])).isSome = true := by decide +kernel
theorem mSum : ∀ i : Fin 17, looseB (mL i.val) = i.val := by decide +kernel
theorem mS_ok (i : Nat) : (mS i).Ok := by
  have hm : min i 16 < 17 := by omega
  refine dS_ok (Nat.zero_le _) ?_ ?_ (fun _ h => by cases h) (fun w hw => ?_)
  · unfold mL maxN
    rw [List.length_map, List.length_range]
    omega
  · rw [mSum ⟨min i 16, hm⟩]
    show 0 + min i 16 ≤ _
    unfold maxB
    omega
  · obtain ⟨j, hj, rfl⟩ := List.mem_map.1 hw
    exact ⟨by show 1 ≤ 32; omega, by show 0 ≤ 32; omega⟩
theorem mS_app1 (i : Nat) (hi : i < 16) : appendR (mS i) (nI i) 1 = 0 ∧ appendS (mS i) (nI i) [1] = mS (i + 1) := by
  have h1 : min i 16 = i := by omega
  have h2 : min (i + 1) 16 = i + 1 := by omega
  unfold mS
  rw [h1, h2, mL_succ]
  exact dS_app (b := [1]) (nI_good ⟨i, by omega⟩) (mFull1 ⟨i, hi⟩)
theorem mS_app2 (i : Nat) (hi : 16 ≤ i) (hi2 : i < 26) : appendR (mS i) (nI i) 1 = 5 ∧ appendS (mS i) (nI i) [1] = mS (i + 1) := by
  have h1 : min i 16 = 16 := by omega
  have h2 : min (i + 1) 16 = 16 := by omega
  unfold mS
  rw [h1, h2]
  exact dS_full (b := [1]) (nI_good ⟨i, hi2⟩) (mFull2 ⟨i, hi2⟩ hi)
theorem mS_now (i : Nat) : (mS i).now.length = min i 16 ∧ used (mS i).now = min i 16 := mNow ⟨min i 16, by omega⟩
theorem mS_nil (i : Nat) (hi : 0 < i) : appendR (mS i) (nI 0) ([] : By).length = 0 := by
  have h1 := mS_now i
  refine (dS_app (nI_good ⟨0, by omega⟩) (full_no (.inl (mLook ⟨min i 16, by omega⟩ (by show 0 < min i 16; omega))) ?_)).1
  have h2 : used ((mL (min i 16)).foldl doW []) = min i 16 := h1.2
  rw [h2]
  show ((min i 16 : Nat) : Int) + ((0 : Nat) : Int) ≤ 1000
  omega
def abc : ByteArray := ⟨#[97, 98, 99, 100, 101, 102, 103, 104, 105, 106, 107, 108, 109, 110, 111, 112, 113, 114, 115, 116, 117, 118, 119, 120, 121, 122]⟩
theorem abc_at : ∀ i : Fin 26, abc.extract i.val (i.val + 1) = nI i.val := by decide +kernel
set_option maxRecDepth 100000 in
set_option maxHeartbeats 8000000 in
theorem DiskMany_calls (n : Int) (w : World) (hn0 : 0 ≤ n) (hn1 : n ≤ 255) :
    Calls Try.prog 6 #[.int .u8 n] w fun e w' => e = .returned (.bool true) ∧ Below w.heap.size w w' := by
  obtain ⟨k, hk⟩ : ∃ k : Nat, n % 24 = (k : Int) := ⟨(n % 24).toNat, by omega⟩
  have hk2 : k < 24 := by omega
  have HNW := Aside0.mk (New_dk w 1000)
  rw [dS_new (by omega)] at HNW
  go_enter Try.func6, Try.ntmps6
  go_wp2_with fail
  refine HNW.out.mono ?_
  rintro e w1 ⟨p, rfl, hD1, hB1⟩
  have HI := Aside0.mk (⟨hD1, hB1⟩ : Dk w1 w.heap.size p (mS 0) ∧ Below w.heap.size w w1)
  clear hD1 hB1
  go_wp2
  simp only [hk]
  go_loopw [6] (fun v6 wr => ∃ i : Nat, v6 = .int .i64 i ∧ i ≤ k + 1 ∧ Aside0 (Dk wr w.heap.size p (mS i) ∧ Below w.heap.size w wr)) (fun v6 _ => k + 1 - (intOf v6).toNat)
  case atStart => exact ⟨0, rfl, Nat.zero_le _, HI⟩
  case round =>
    obtain ⟨i, rfl, hi, HR⟩ := hrel
    clear HI
    by_cases hlt : i < k + 1
    · have hdl : decide ((i : Int) < (k : Int) + 1) = true := decide_eq_true (by omega)
      have hx := abc_at ⟨i, by omega⟩
      have hi26 : i + 1 ≤ 26 := by omega
      have hi27 : (i : Int) + 1 ≤ 26 := by omega
      have hi28 : (i : Int) ≤ (i : Int) + 1 := by omega
      unfold abc at hx
      simp only at hx
      have hC : CB (wr.alloc (.cells #[.int .u8 1] 5)) (some ⟨wr.heap.size, 0, none⟩) [1] := bytes_lit wr [1] (by decide)
      have hb1 := below_alloc (Below.refl wr.heap.size wr) (.cells #[.int .u8 1] 5)
      by_cases hik : i < 16
      · have HB := Aside0.mk (HR.out.2.trans (hb1.mono HR.out.2.size))
        have HA := Aside0.mk ((HR.out.1.below hb1).app (mS_ok i) (nI i) (by unfold maxLen; show 1 ≤ _; omega) _ 1 [1] hC (by decide) (mS_app1 i hik).1 (mS_app1 i hik).2)
        have hdk : decide ((i : Int) < 16) = true := decide_eq_true (by omega)
        clear hC hb1
        go_wp2_with fail
        refine HA.out.mono ?_
        rintro e w3 ⟨rfl, hD3, hB3⟩
        have HR3 := Aside0.mk (⟨hD3, HB.out.trans hB3⟩ : Dk w3 w.heap.size p (mS (i + 1)) ∧ Below w.heap.size w w3)
        clear hD3 hB3
        go_wp2
        go_roundw
        case rel => exact ⟨i + 1, by go_num, by omega, HR3⟩
        case measure => simp [intOf]; omega
      · have HB := Aside0.mk (HR.out.2.trans (hb1.mono HR.out.2.size))
        have HA := Aside0.mk ((HR.out.1.below hb1).app (mS_ok i) (nI i) (by unfold maxLen; show 1 ≤ _; omega) _ 1 [1] hC (by decide) (mS_app2 i (by omega) (by omega)).1 (mS_app2 i (by omega) (by omega)).2)
        have hdk : decide ((i : Int) < 16) = false := decide_eq_false (by omega)
        clear hC hb1
        go_wp2_with fail
        refine HA.out.mono ?_
        rintro e w3 ⟨rfl, hD3, hB3⟩
        have HR3 := Aside0.mk (⟨hD3, HB.out.trans hB3⟩ : Dk w3 w.heap.size p (mS (i + 1)) ∧ Below w.heap.size w w3)
        clear hD3 hB3
        go_wp2
        go_roundw
        case rel => exact ⟨i + 1, by go_num, by omega, HR3⟩
        case measure => simp [intOf]; omega
    · obtain rfl : i = k + 1 := by omega
      have hdl : decide (((k + 1 : Nat) : Int) < (k : Int) + 1) = false := decide_eq_false (by omega)
      have hdl2 : decide ((k : Int) + 1 < (k : Int) + 1) = false := decide_eq_false (by omega)
      by_cases h16 : 16 < k + 1
      · have hd16 : decide (16 < (k : Int) + 1) = true := decide_eq_true (by omega)
        have hm : min (k + 1) 16 = 16 := by omega
        have hN := (mS_now (k + 1)).1.trans hm
        have hU := (mS_now (k + 1)).2.trans hm
        have HN := Aside0.mk hN
        have HU := Aside0.mk hU
        clear hN hU hm
        go_wp2_with fail
        refine (answers_calls _).mono ?_
        rintro e w5 ⟨rfl, hB5⟩
        have HT := Aside0.mk ((HR.out.1.below hB5).nam rfl HN.out (by omega))
        have HB := Aside0.mk (HR.out.2.trans (hB5.mono HR.out.2.size))
        clear hB5
        go_wp2_with fail
        refine HT.out.mono ?_
        rintro e w6 ⟨A6, c6, rfl, hD6, hB6⟩
        replace HB := Aside0.mk (HB.out.trans hB6)
        replace HT := Aside0.mk (hD6.usd (mS_ok _) HU.out)
        clear hD6 hB6
        go_wp2_with fail
        refine HT.out.mono ?_
        rintro e w7 ⟨rfl, hD7, hB7⟩
        replace HB := Aside0.mk (HB.out.trans hB7)
        replace HT := Aside0.mk (hD7.app (mS_ok _) (nI 0) (by unfold maxLen; show 1 ≤ _; omega) none 0 [] (Kd.C_nil _ _) (by decide) (mS_nil _ (by omega)) rfl)
        clear hD7 hB7
        go_wp2_with fail
        refine HT.out.mono ?_
        rintro e w8 ⟨rfl, hD8, hB8⟩
        replace HB := Aside0.mk (HB.out.trans hB8)
        clear hD8 hB8
        go_wp2
        go_ret
        exact ⟨rfl, HB.out⟩
      · have hd16 : decide (16 < (k : Int) + 1) = false := decide_eq_false (by omega)
        have hm : min (k + 1) 16 = (k + 1) := by omega
        have hN := (mS_now (k + 1)).1.trans hm
        have hU := (mS_now (k + 1)).2.trans hm
        have HN := Aside0.mk hN
        have HU := Aside0.mk hU
        clear hN hU hm
        have hee : ((k : Int) + 1 == (k : Int) + 1) = true := by rw [beq_iff_eq]
        go_wp2_with fail
        refine (answers_calls _).mono ?_
        rintro e w5 ⟨rfl, hB5⟩
        have HT := Aside0.mk ((HR.out.1.below hB5).nam rfl HN.out (by omega))
        have HB := Aside0.mk (HR.out.2.trans (hB5.mono HR.out.2.size))
        clear hB5
        go_wp2_with fail
        refine HT.out.mono ?_
        rintro e w6 ⟨A6, c6, rfl, hD6, hB6⟩
        replace HB := Aside0.mk (HB.out.trans hB6)
        replace HT := Aside0.mk (hD6.usd (mS_ok _) HU.out)
        clear hD6 hB6
        go_wp2_with fail
        refine HT.out.mono ?_
        rintro e w7 ⟨rfl, hD7, hB7⟩
        replace HB := Aside0.mk (HB.out.trans hB7)
        replace HT := Aside0.mk (hD7.app (mS_ok _) (nI 0) (by unfold maxLen; show 1 ≤ _; omega) none 0 [] (Kd.C_nil _ _) (by decide) (mS_nil _ (by omega)) rfl)
        clear hD7 hB7
        go_wp2_with fail
        refine HT.out.mono ?_
        rintro e w8 ⟨rfl, hD8, hB8⟩
        replace HB := Aside0.mk (HB.out.trans hB8)
        clear hD8 hB8
        go_wp2
        go_ret
        exact ⟨rfl, HB.out⟩
end Go.Proofs.Ytiiomookhjpblaa.Hand
