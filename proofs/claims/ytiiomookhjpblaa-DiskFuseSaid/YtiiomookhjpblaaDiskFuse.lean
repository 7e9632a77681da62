/- DiskFuse, walked by hand. -/
import Derived.Test.YtiiomookhjpblaaDiskLaws
namespace Go.Proofs.Ytiiomookhjpblaa.Hand
open Go.RowKit Go.Maps Go.Proofs.YtiiomookhjpblaaW.PrintWords Go.Proofs.YtiiomookhjpblaaW.PrintLast Go.Proofs.YtiiomookhjpblaaW.PrintMore
set_option linter.unusedVariables false
set_option linter.unusedSimpArgs false
def nF : ByteArray := ⟨#[102]⟩
theorem nF_size : nF.size ≤ maxLen := by unfold maxLen; decide
theorem nF_good : goodName nF = true := by decide +kernel
def wF (b : By) : Wr := ⟨0, nF, ⟨#[]⟩, b⟩
def filF (n : Nat) : Fs := if n = 0 then [] else [(nF, List.replicate n 120)]
theorem doW_filF (n : Nat) : doW (filF n) (wF [120]) = filF (n + 1) := by
  unfold filF
  rw [if_neg (Nat.succ_ne_zero n)]
  split
  · rename_i h
    subst h
    rfl
  · unfold doW wF
    rw [if_pos rfl]
    unfold put bytesAt look del
    simp only [List.find?_cons, List.filter_cons, decide_true, Bool.not_true, List.filter_nil]
    show [(nF, List.replicate n 120 ++ [120])] = [(nF, List.replicate (n + 1) 120)]
    rw [List.replicate_succ']
theorem fold_filF (n m : Nat) : (List.replicate n (wF [120])).foldl doW (filF m) = filF (m + n) := by
  induction n generalizing m with
  | zero => rfl
  | succ n ih =>
    rw [List.replicate_succ, List.foldl_cons, doW_filF, ih]
    congr 1
    omega
theorem used_filF (n : Nat) : used (filF n) = n := by
  unfold filF
  split
  · rename_i h; rw [h]; rfl
  · show (List.replicate n (120 : UInt8)).length + 0 = n
    rw [List.length_replicate]
    rfl
theorem look_filF (n : Nat) : (look nF (filF n)).isSome = decide (n ≠ 0) := by
  unfold filF
  split
  · rename_i h; simp [h, look]
  · rename_i h; simp [h, look]
theorem at_filF (n : Nat) : bytesAt nF (filF n) = List.replicate n 120 := by
  unfold filF bytesAt
  split
  · rename_i h; rw [h]; rfl
  · simp [look]
theorem len_filF (n : Nat) : (filF n).length ≤ 1 := by unfold filF; split <;> simp
def fS (k i : Nat) : DSt := ⟨[], List.replicate (min i k) (wF [120]), 10000, if i ≤ k then ((k - i : Nat) : Int) else 0, decide (k < i)⟩
theorem fS_now (k i : Nat) : (fS k i).now = filF (min i k) := by
  show (List.replicate (min i k) (wF [120])).foldl doW (filF 0) = _
  rw [fold_filF, Nat.zero_add]
theorem looseB_rep (n : Nat) (w : Wr) : looseB (List.replicate n w) = n * w.b.length := by
  induction n with
  | zero => simp [looseB]
  | succ n ih =>
    rw [List.replicate_succ]
    have : looseB (w :: List.replicate n w) = w.b.length + looseB (List.replicate n w) := by simp [looseB]
    rw [this, ih, Nat.succ_mul]
    omega
theorem fS_ok (k i : Nat) (hk : k ≤ 25) (hi : i ≤ 25) : (fS k i).Ok := by
  refine ⟨?_, ?_, ?_, by show 0 ≤ _; exact Nat.zero_le _, ?_, (fun _ h => by cases h), ?_⟩
  · unfold fS; simp only; split <;> omega
  · unfold fS; simp only; split <;> omega
  · show (List.replicate (min i k) (wF [120])).length ≤ _
    rw [List.length_replicate]
    unfold maxN
    omega
  · show used [] + looseB (List.replicate (min i k) (wF [120])) ≤ _
    rw [looseB_rep]
    show 0 + min i k * 1 ≤ _
    unfold maxB
    omega
  · intro w h
    rw [List.eq_of_mem_replicate h]
    decide
theorem fS_full (k i : Nat) (hk : k ≤ 25) (hi : i ≤ 25) : fullB (fS k i) nF 1 = false := by
  unfold fullB
  rw [fS_now, used_filF]
  have h1 := len_filF (min i k)
  have h2 : decide (16 ≤ (filF (min i k)).length) = false := decide_eq_false (by omega)
  have h3 : decide ((fS k i).room < ((min i k : Nat) : Int) + ((1 : Nat) : Int)) = false := decide_eq_false (by show ¬ (10000 : Int) < _; omega)
  rw [h2, h3, Bool.and_false, Bool.or_false]
theorem fS_app1 (k i : Nat) (hi : i < k) (hk : k ≤ 25) : appendR (fS k i) nF 1 = 0 ∧ appendS (fS k i) nF [120] = fS k (i + 1) := by
  have hd : (fS k i).down = false := decide_eq_false (by omega)
  have hf : (fS k i).fuse = ((k - i : Nat) : Int) := by show (if i ≤ k then ((k - i : Nat) : Int) else 0) = _; rw [if_pos (by omega)]
  have hb : burnB (fS k i) = true := by unfold burnB; rw [hd, hf]; simp; omega
  constructor
  · unfold appendR
    rw [if_neg (by rw [nF_good]; simp), if_neg (by rw [hd]; simp), fS_full k i hk (by omega), if_neg (by simp)]
    unfold doneR
    rw [if_pos hb]
  · unfold appendS
    rw [if_neg (by rw [nF_good]; simp), if_neg (by rw [hd]; simp)]
    show (if fullB (fS k i) nF 1 = true then _ else _) = _
    rw [fS_full k i hk (by omega), if_neg (by simp)]
    unfold doneS
    rw [if_pos hb]
    unfold burnS
    rw [if_neg (by rw [hd]; simp), if_neg (by rw [hf]; omega), if_pos (by rw [hf]; omega)]
    unfold fS
    have h1 : min (i + 1) k = min i k + 1 := by omega
    simp only [h1, List.replicate_succ']
    rw [if_pos (by omega), if_pos (by omega)]
    have h2 : ((k - i : Nat) : Int) - 1 = ((k - (i + 1) : Nat) : Int) := by omega
    have h3 : decide (k < i) = decide (k < i + 1) := by rw [decide_eq_decide]; omega
    rw [h2, h3]
    rfl
theorem fS_app2 (k i : Nat) (hi : k ≤ i) (hk : k ≤ 25) (hi2 : i ≤ 25) : appendR (fS k i) nF 1 = 6 ∧ appendS (fS k i) nF [120] = fS k (i + 1) := by
  have hm : min i k = k := by omega
  have hm2 : min (i + 1) k = k := by omega
  by_cases e : i = k
  · subst e
    have hd : (fS i i).down = false := decide_eq_false (by omega)
    have hf : (fS i i).fuse = 0 := by show (if i ≤ i then ((i - i : Nat) : Int) else 0) = _; rw [if_pos (by omega)]; omega
    have hb : burnB (fS i i) = false := by unfold burnB; rw [hd, hf]; rfl
    constructor
    · unfold appendR
      rw [if_neg (by rw [nF_good]; simp), if_neg (by rw [hd]; simp), fS_full i i hk (by omega), if_neg (by simp)]
      unfold doneR
      rw [if_neg (by rw [hb]; simp)]
    · unfold appendS
      rw [if_neg (by rw [nF_good]; simp), if_neg (by rw [hd]; simp)]
      show (if fullB (fS i i) nF 1 = true then _ else _) = _
      rw [fS_full i i hk (by omega), if_neg (by simp)]
      unfold doneS
      rw [if_neg (by rw [hb]; simp)]
      unfold burnS
      rw [if_neg (by rw [hd]; simp), if_pos hf]
      unfold fS
      simp only [hm, hm2]
      rw [if_pos (by omega), if_neg (by omega)]
      have h3 : decide (i < i + 1) = true := decide_eq_true (by omega)
      have h4 : ((i - i : Nat) : Int) = 0 := by omega
      rw [h3, h4]
  · have hd : (fS k i).down = true := decide_eq_true (by omega)
    constructor
    · unfold appendR
      rw [if_neg (by rw [nF_good]; simp), if_pos hd]
    · unfold appendS
      rw [if_neg (by rw [nF_good]; simp), if_pos hd]
      unfold fS
      simp only [hm, hm2]
      rw [if_neg (by omega), if_neg (by omega)]
      have h3 : decide (k < i) = decide (k < i + 1) := by rw [decide_eq_decide]; omega
      rw [h3]
theorem fS_read (k : Nat) (hk : k < 25) : readR (fS k 25) nF = 6 ∧ readB (fS k 25) nF = [] := by
  have hd : (fS k 25).down = true := decide_eq_true (by omega)
  constructor
  · unfold readR
    rw [if_neg (by rw [nF_good]; simp), if_pos hd]
  · unfold readB
    rw [if_neg (by rw [nF_good]; simp), if_pos hd]
def cS (n : Nat) : DSt := ⟨filF n, [], 10000, -1, false⟩
theorem fS_crash (k q : Nat) (hk : k < 25) : crashS (fS k 25) (q : Int) (-1) = cS (min q k) := by
  unfold crashS cS
  have hm : min 25 k = k := by omega
  have hkn : keepN (fS k 25) (q : Int) = min q k := by
    unfold keepN
    have hl : (fS k 25).loose.length = k := by show (List.replicate (min 25 k) (wF [120])).length = _; rw [List.length_replicate, hm]
    rw [hl]
    split
    · omega
    · split <;> omega
  have hf : crashF (fS k 25) (q : Int) (-1) = filF (min q k) := by
    unfold crashF
    rw [hkn]
    have ht : ((fS k 25).loose.take (min q k)).foldl doW (fS k 25).sure = filF (min q k) := by
      show ((List.replicate (min 25 k) (wF [120])).take (min q k)).foldl doW (filF 0) = _
      rw [List.take_replicate, fold_filF]
      congr 1
      omega
    split
    · exact ht
    · rw [if_neg (by omega)]
      exact ht
  rw [hf]
  rfl
theorem cS_ok (n : Nat) (hn : n ≤ 25) : (cS n).Ok := by
  refine ⟨by show (-1 : Int) ≤ _; omega, by show (-1 : Int) ≤ -1; omega, Nat.zero_le _, ?_, ?_, ?_, (fun _ h => by cases h)⟩
  · have := len_filF n
    show (filF n).length ≤ _
    unfold maxN
    omega
  · show used (filF n) + 0 ≤ _
    rw [used_filF]
    unfold maxB
    omega
  · intro x hx
    unfold cS filF at hx
    simp only at hx
    split at hx
    · cases hx
    · rw [List.mem_singleton.1 hx]
      show nF.size ≤ 32
      decide
theorem cS_read (n : Nat) : readR (cS n) nF = (if n = 0 then 3 else 0) ∧ readB (cS n) nF = List.replicate n 120 := by
  have h1 : (cS n).now = filF n := rfl
  constructor
  · unfold readR
    rw [if_neg (by rw [nF_good]; simp), if_neg (by show ¬ false = true; simp), h1, look_filF]
    by_cases h : n = 0
    · simp [h]
    · simp [h]
  · unfold readB
    rw [if_neg (by rw [nF_good]; simp), if_neg (by show ¬ false = true; simp), h1, at_filF]
theorem cS_app (n : Nat) (hn : n ≤ 25) : appendR (cS n) nF 0 = 0 := by
  unfold appendR
  rw [if_neg (by rw [nF_good]; simp), if_neg (by show ¬ false = true; simp)]
  have h1 : fullB (cS n) nF 0 = false := by
    unfold fullB
    have h0 : (cS n).now = filF n := rfl
    rw [h0, used_filF]
    have h1 := len_filF n
    have h2 : decide (16 ≤ (filF n).length) = false := decide_eq_false (by omega)
    have h3 : decide ((cS n).room < (n : Int) + ((0 : Nat) : Int)) = false := decide_eq_false (by show ¬ (10000 : Int) < _; omega)
    rw [h2, h3, Bool.and_false, Bool.or_false]
  rw [h1, if_neg (by simp)]
  rfl
set_option maxRecDepth 100000 in
set_option maxHeartbeats 8000000 in
theorem DiskFuse_calls (n m : Int) (w : World) (hn0 : 0 ≤ n) (hn1 : n ≤ 255) (hm0 : 0 ≤ m) (hm1 : m ≤ 255) :
    Calls Try.prog 3 #[.int .u8 n, .int .u8 m] w fun e w' => e = .returned (.bool true) ∧ Below w.heap.size w w' := by
  obtain ⟨k, hk⟩ : ∃ k : Nat, n % 20 = (k : Int) := ⟨(n % 20).toNat, by omega⟩
  obtain ⟨q, hq⟩ : ∃ q : Nat, m % 30 = (q : Int) := ⟨(m % 30).toNat, by omega⟩
  have hk2 : k < 20 := by omega
  have hq2 : q < 30 := by omega
  have HNW := Aside0.mk (New_dk w 10000)
  have HST := Aside0.mk (show fuseS (newS 10000) (k : Int) = fS k 0 from by
    show DSt.mk [] [] (if (10000 : Int) < 0 then 0 else 10000) (if (k : Int) < 0 then 0 else (k : Int)) false = DSt.mk [] (List.replicate (min 0 k) (wF [120])) 10000 (if 0 ≤ k then ((k - 0 : Nat) : Int) else 0) (decide (k < 0))
    rw [if_neg (show ¬ (10000 : Int) < 0 by omega), if_neg (show ¬ (k : Int) < 0 by omega), if_pos (Nat.zero_le k), show min 0 k = 0 by omega, show decide (k < 0) = false from decide_eq_false (by omega)]
    rfl)
  go_enter Try.func3, Try.ntmps3
  go_wp2_with fail
  refine HNW.out.mono ?_
  rintro e w1 ⟨p, rfl, hD1, hB1⟩
  have HF := Aside0.mk (hD1.fus (k : Int) HST.out)
  have HB1 := Aside0.mk hB1
  clear hD1 hB1
  go_wp2_with fail
  refine HF.out.mono ?_
  rintro e w2 ⟨rfl, hD2, hB2⟩
  have HI := Aside0.mk (⟨hD2, HB1.out.trans hB2⟩ : Dk w2 w.heap.size p (fS k 0) ∧ Below w.heap.size w w2)
  clear hD2 hB2
  go_wp2
  go_loopw [7] (fun v7 wr => ∃ i : Nat, v7 = .int .i64 i ∧ i ≤ 25 ∧ Aside0 (Dk wr w.heap.size p (fS k i) ∧ Below w.heap.size w wr)) (fun v7 _ => 25 - (intOf v7).toNat)
  case atStart => exact ⟨0, rfl, Nat.zero_le _, HI⟩
  case round =>
    obtain ⟨i, rfl, hi, HR⟩ := hrel
    clear HI
    by_cases hlt : i < 25
    · have hdl : decide ((i : Int) < 25) = true := decide_eq_true (by omega)
      have hC : CB (wr.alloc (.cells #[.int .u8 120] 5)) (some ⟨wr.heap.size, 0, none⟩) [120] := bytes_lit wr [120] (by decide)
      have hb1 := below_alloc (Below.refl wr.heap.size wr) (.cells #[.int .u8 120] 5)
      have HOK := Aside0.mk (fS_ok k i (by omega) (by omega))
      by_cases hik : i < k
      · have HB := Aside0.mk (HR.out.2.trans (hb1.mono HR.out.2.size))
        have HA := Aside0.mk ((HR.out.1.below hb1).app HOK.out nF nF_size _ 1 [120] hC (by decide) (fS_app1 k i hik (by omega)).1 (fS_app1 k i hik (by omega)).2)
        have hdk : decide ((i : Int) < (k : Int)) = true := decide_eq_true (by omega)
        clear hC hb1
        go_wp2_with fail
        refine HA.out.mono ?_
        rintro e w3 ⟨rfl, hD3, hB3⟩
        have HR3 := Aside0.mk (⟨hD3, HB.out.trans hB3⟩ : Dk w3 w.heap.size p (fS k (i + 1)) ∧ Below w.heap.size w w3)
        clear hD3 hB3
        go_wp2
        go_roundw
        case rel => exact ⟨i + 1, by go_num, by omega, HR3⟩
        case measure => simp [intOf]; omega
      · have HB := Aside0.mk (HR.out.2.trans (hb1.mono HR.out.2.size))
        have HA := Aside0.mk ((HR.out.1.below hb1).app HOK.out nF nF_size _ 1 [120] hC (by decide) (fS_app2 k i (by omega) (by omega) (by omega)).1 (fS_app2 k i (by omega) (by omega) (by omega)).2)
        have hdk : decide ((i : Int) < (k : Int)) = false := decide_eq_false (by omega)
        clear hC hb1
        go_wp2_with fail
        refine HA.out.mono ?_
        rintro e w3 ⟨rfl, hD3, hB3⟩
        have HR3 := Aside0.mk (⟨hD3, HB.out.trans hB3⟩ : Dk w3 w.heap.size p (fS k (i + 1)) ∧ Below w.heap.size w w3)
        clear hD3 hB3
        go_wp2
        go_roundw
        case rel => exact ⟨i + 1, by go_num, by omega, HR3⟩
        case measure => simp [intOf]; omega
    · obtain rfl : i = 25 := by omega
      have hdl : decide (((25 : Nat) : Int) < 25) = false := by decide
      have HRD := Aside0.mk (HR.out.1.read (fS_ok k 25 (by omega) (by omega)) nF nF_size (fS_read k (by omega)).1 (fS_read k (by omega)).2)
      have HB := Aside0.mk HR.out.2
      clear HR
      go_wp2_with fail
      refine HRD.out.mono ?_
      rintro e w4 ⟨A4, c4, rfl, _, hD4, hB4⟩
      have HCR := Aside0.mk (hD4.crash (fS_ok k 25 (by omega) (by omega)) (q : Int) (-1) (fS_crash k q (by omega)))
      have HB4 := Aside0.mk (HB.out.trans hB4)
      clear hD4 hB4
      go_wp2_with fail
      refine HCR.out.mono ?_
      rintro e w5 ⟨rfl, hD5, hB5⟩
      obtain ⟨n5, hn5⟩ : ∃ n5, n5 = min q k := ⟨_, rfl⟩
      rw [← hn5] at hD5
      have hn25 : n5 ≤ 25 := by omega
      have HRE := Aside0.mk (hD5.read (cS_ok n5 hn25) nF nF_size (cS_read n5).1 (cS_read n5).2)
      have HB5 := Aside0.mk (HB4.out.trans hB5)
      clear hD5 hB5
      rw [List.length_replicate] at HRE
      by_cases hqk : k < q
      · have hdq : decide ((k : Int) < (q : Int)) = true := decide_eq_true (by omega)
        have hnx : n5 = k := by omega
        clear hn5
        by_cases h0 : n5 = 0
        · have hz : (if n5 = 0 then (3 : Int) else 0) = 3 := if_pos h0
          rw [hz] at HRE
          subst hnx
          have hz0 : (((n5 : Nat) : Int) == 0) = true := by rw [beq_iff_eq]; omega
          clear hz h0
          go_wp2_with fail
          refine HRE.out.mono ?_
          rintro e w6 ⟨A6, c6, rfl, _, hD6, hB6⟩
          have HD6 := Aside0.mk hD6
          have HB6 := Aside0.mk (HB5.out.trans hB6)
          clear hD6 hB6
          go_wp2_with fail
          refine (answers_calls w6).mono ?_
          rintro e w7 ⟨rfl, hB7⟩
          have HAP := Aside0.mk ((HD6.out.below hB7).app (cS_ok _ hn25) nF nF_size none 0 [] (Kd.C_nil _ _) (by decide) (cS_app _ hn25) rfl)
          have HB7 := Aside0.mk (HB6.out.trans (hB7.mono HB6.out.size))
          clear hB7
          go_wp2_with fail
          refine HAP.out.mono ?_
          rintro e w8 ⟨rfl, _, hB8⟩
          have HB8 := Aside0.mk (HB7.out.trans hB8)
          clear hB8
          go_wp2
          go_ret
          exact ⟨rfl, HB8.out⟩
        · have hz : (if n5 = 0 then (3 : Int) else 0) = 0 := if_neg h0
          rw [hz] at HRE
          subst hnx
          have hz0 : (((n5 : Nat) : Int) == 0) = false := by rw [beq_eq_false_iff_ne]; omega
          have hzp : decide (0 < ((n5 : Nat) : Int)) = true := decide_eq_true (by omega)
          have hzq : 0 < n5 := by omega
          have hee : (((n5 : Nat) : Int) == ((n5 : Nat) : Int)) = true := by rw [beq_iff_eq]
          clear hz h0
          go_wp2_with fail
          refine HRE.out.mono ?_
          rintro e w6 ⟨A6, c6, rfl, _, hD6, hB6⟩
          have HD6 := Aside0.mk hD6
          have HB6 := Aside0.mk (HB5.out.trans hB6)
          clear hD6 hB6
          go_wp2_with fail
          refine (answers_calls w6).mono ?_
          rintro e w7 ⟨rfl, hB7⟩
          have HAP := Aside0.mk ((HD6.out.below hB7).app (cS_ok _ hn25) nF nF_size none 0 [] (Kd.C_nil _ _) (by decide) (cS_app _ hn25) rfl)
          have HB7 := Aside0.mk (HB6.out.trans (hB7.mono HB6.out.size))
          clear hB7
          go_wp2_with fail
          refine HAP.out.mono ?_
          rintro e w8 ⟨rfl, _, hB8⟩
          have HB8 := Aside0.mk (HB7.out.trans hB8)
          clear hB8
          go_wp2
          go_ret
          exact ⟨rfl, HB8.out⟩
      · have hdq : decide ((k : Int) < (q : Int)) = false := decide_eq_false (by omega)
        have hnx : n5 = q := by omega
        clear hn5
        by_cases h0 : n5 = 0
        · have hz : (if n5 = 0 then (3 : Int) else 0) = 3 := if_pos h0
          rw [hz] at HRE
          subst hnx
          have hz0 : (((n5 : Nat) : Int) == 0) = true := by rw [beq_iff_eq]; omega
          clear hz h0
          go_wp2_with fail
          refine HRE.out.mono ?_
          rintro e w6 ⟨A6, c6, rfl, _, hD6, hB6⟩
          have HD6 := Aside0.mk hD6
          have HB6 := Aside0.mk (HB5.out.trans hB6)
          clear hD6 hB6
          go_wp2_with fail
          refine (answers_calls w6).mono ?_
          rintro e w7 ⟨rfl, hB7⟩
          have HAP := Aside0.mk ((HD6.out.below hB7).app (cS_ok _ hn25) nF nF_size none 0 [] (Kd.C_nil _ _) (by decide) (cS_app _ hn25) rfl)
          have HB7 := Aside0.mk (HB6.out.trans (hB7.mono HB6.out.size))
          clear hB7
          go_wp2_with fail
          refine HAP.out.mono ?_
          rintro e w8 ⟨rfl, _, hB8⟩
          have HB8 := Aside0.mk (HB7.out.trans hB8)
          clear hB8
          go_wp2
          go_ret
          exact ⟨rfl, HB8.out⟩
        · have hz : (if n5 = 0 then (3 : Int) else 0) = 0 := if_neg h0
          rw [hz] at HRE
          subst hnx
          have hz0 : (((n5 : Nat) : Int) == 0) = false := by rw [beq_eq_false_iff_ne]; omega
          have hzp : decide (0 < ((n5 : Nat) : Int)) = true := decide_eq_true (by omega)
          have hzq : 0 < n5 := by omega
          have hee : (((n5 : Nat) : Int) == ((n5 : Nat) : Int)) = true := by rw [beq_iff_eq]
          clear hz h0
          go_wp2_with fail
          refine HRE.out.mono ?_
          rintro e w6 ⟨A6, c6, rfl, _, hD6, hB6⟩
          have HD6 := Aside0.mk hD6
          have HB6 := Aside0.mk (HB5.out.trans hB6)
          clear hD6 hB6
          go_wp2_with fail
          refine (answers_calls w6).mono ?_
          rintro e w7 ⟨rfl, hB7⟩
          have HAP := Aside0.mk ((HD6.out.below hB7).app (cS_ok _ hn25) nF nF_size none 0 [] (Kd.C_nil _ _) (by decide) (cS_app _ hn25) rfl)
          have HB7 := Aside0.mk (HB6.out.trans (hB7.mono HB6.out.size))
          clear hB7
          go_wp2_with fail
          refine HAP.out.mono ?_
          rintro e w8 ⟨rfl, _, hB8⟩
          have HB8 := Aside0.mk (HB7.out.trans hB8)
          clear hB8
          go_wp2
          go_ret
          exact ⟨rfl, HB8.out⟩
end Go.Proofs.Ytiiomookhjpblaa.Hand
