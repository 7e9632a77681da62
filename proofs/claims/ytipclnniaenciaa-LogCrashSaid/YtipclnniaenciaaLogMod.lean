/- A log as plain data: frames, what bytes hold, and what each call answers and leaves. -/
import Derived.Test.YtipclnniaenciaaDiskPlain
import Derived.Test.YtipclnniaenciaaSumSpec
namespace Go.Proofs.Ytipclnniaenciaa.Hand
open Go.RowKit Go.Proofs.YtipclnniaenciaaW.PrintWords Go.Proofs.Ytipclnniaenciaa.Spec
set_option linter.unusedVariables false
set_option linter.unusedSimpArgs false
/-! ## Room for so many bytes and writes more -/
structure DSt.Fit (st : DSt) (n m : Nat) : Prop where
  ok : st.Ok
  len : st.sure.length + st.loose.length + m ≤ maxN
  sz : used st.sure + looseB st.loose + n ≤ maxB
theorem DSt.Fit.less {st : DSt} {n m n' m' : Nat} (h : st.Fit n m) (hn : n' ≤ n) (hm : m' ≤ m) : st.Fit n' m' := ⟨h.ok, by have := h.len; omega, by have := h.sz; omega⟩
theorem DSt.Fit.burn {st : DSt} {n m : Nat} (h : st.Fit n m) : (burnS st).Fit n m := by
  have h1 := burnS_loose st
  exact ⟨h.ok.burn, by rw [h1.1, h1.2.1]; exact h.len, by rw [h1.1, h1.2.1]; exact h.sz⟩
theorem DSt.Fit.done {st : DSt} {n m : Nat} {w : Wr} (h : st.Fit (n + w.b.length) (m + 1)) (hw : w.frm.size ≤ 32 ∧ w.onto.size ≤ 32) : (doneS st w).Fit n m := by
  have h1 := burnS_loose st
  have h2 := h.len
  have h3 := h.sz
  refine ⟨h.ok.done (by omega) (by omega) hw, ?_, ?_⟩
  · unfold doneS
    split
    · show (burnS st).sure.length + (st.loose ++ [w]).length + m ≤ _
      rw [h1.2.1, List.length_append, List.length_singleton]
      omega
    · rw [h1.1, h1.2.1]
      omega
  · unfold doneS
    split
    · show used (burnS st).sure + looseB (st.loose ++ [w]) + n ≤ _
      rw [h1.2.1, looseB_append]
      have : looseB [w] = w.b.length := by simp [looseB]
      omega
    · rw [h1.1, h1.2.1]
      omega
theorem size_good {s : ByteArray} (h : ¬ goodName s = false) : s.size ≤ 32 := by
  have h2 : goodName s = true := by simpa using h
  unfold goodName at h2
  simp only [Bool.and_eq_true, decide_eq_true_eq] at h2
  exact h2.2
theorem DSt.Fit.append {st : DSt} {n m : Nat} {s : ByteArray} {b : By} (h : st.Fit (n + b.length) (m + 1)) : (appendS st s b).Fit n m := by
  unfold appendS
  split
  · exact h.less (by omega) (by omega)
  · rename_i hg
    split
    · exact h.less (by omega) (by omega)
    · split
      · exact h.less (by omega) (by omega)
      · exact h.done (w := ⟨0, s, ⟨#[]⟩, b⟩) ⟨size_good hg, Nat.zero_le _⟩
theorem DSt.Fit.rename {st : DSt} {n m : Nat} {s t : ByteArray} (h : st.Fit n (m + 1)) : (renameS st s t).Fit n m := by
  unfold renameS
  split
  · exact h.less (by omega) (by omega)
  · rename_i hg
    split
    · exact h.less (by omega) (by omega)
    · rename_i hg2
      split
      · exact h.less (by omega) (by omega)
      · split
        · exact h.less (by omega) (by omega)
        · exact DSt.Fit.done (w := ⟨1, s, t, []⟩) h ⟨size_good hg, size_good hg2⟩
theorem DSt.Fit.remove {st : DSt} {n m : Nat} {s : ByteArray} (h : st.Fit n (m + 1)) : (removeS st s).Fit n m := by
  unfold removeS
  split
  · exact h.less (by omega) (by omega)
  · rename_i hg
    split
    · exact h.less (by omega) (by omega)
    · split
      · exact h.less (by omega) (by omega)
      · exact DSt.Fit.done (w := ⟨2, s, ⟨#[]⟩, []⟩) h ⟨size_good hg, Nat.zero_le _⟩
theorem DSt.Fit.sync {st : DSt} {n m : Nat} (h : st.Fit n m) : (syncS st).Fit n m := by
  have h1 := len_fold st.loose st.sure
  have h2 := used_fold st.loose st.sure
  have h3 := h.len
  have h4 := h.sz
  refine ⟨h.ok.sync (by show (st.loose.foldl doW st.sure).length ≤ _; omega), ?_, ?_⟩
  · unfold syncS
    split
    · show (st.loose.foldl doW st.sure).length + 0 + m ≤ _
      omega
    · exact h.burn.len
  · unfold syncS
    split
    · show used (st.loose.foldl doW st.sure) + looseB [] + n ≤ _
      have : looseB [] = 0 := rfl
      omega
    · exact h.burn.sz
theorem DSt.Fit.crash {st : DSt} {n m : Nat} (h : st.Fit n m) (keep torn : Int) : (crashS st keep torn).Fit n m := by
  have h1 := crashF_len st keep torn
  have h2 := crashF_used st keep torn
  have h3 := h.len
  have h4 := h.sz
  refine ⟨h.ok.crash keep torn (by omega), ?_, ?_⟩
  · show (crashF st keep torn).length + 0 + m ≤ _
    omega
  · show used (crashF st keep torn) + looseB [] + n ≤ _
    have : looseB [] = 0 := rfl
    omega
theorem DSt.Fit.fuse {st : DSt} {n m : Nat} (h : st.Fit n m) {k : Int} (hk : k ≤ 9223372036854775807) : (fuseS st k).Fit n m := by
  refine ⟨⟨?_, ?_, h.ok.nl, h.ok.ns, h.ok.sz, h.ok.nm, h.ok.nw⟩, h.len, h.sz⟩
  · show (if k < 0 then 0 else k) ≤ _
    split <;> omega
  · show -1 ≤ (if k < 0 then 0 else k)
    split <;> omega
/-! ## Frames -/
def be4 (n : Int) : List Int := [n / 16777216 % 256, n / 65536 % 256, n / 256 % 256, n % 256]
def val4 (b : List Int) : Int := rd b 0 * 16777216 + rd b 1 * 65536 + rd b 2 * 256 + rd b 3
def frI (b : List Int) : List Int := sealL (be4 b.length ++ b)
def okI (b : List Int) : Bool := decide (8 ≤ b.length ∧ val4 b ≤ 262144 ∧ (val4 b).toNat + 8 ≤ b.length ∧ sealL (b.take ((val4 b).toNat + 4)) = b.take ((val4 b).toNat + 8))
def splI : Nat → List Int → List (List Int)
  | 0, _ => []
  | k + 1, b => if okI b = true then ((b.take ((val4 b).toNat + 4)).drop 4) :: splI k (b.drop ((val4 b).toNat + 8)) else []
def frB (b : By) : By := Lib.bytesOf (frI (numsL b))
def frs : List By → By
  | [] => []
  | b :: rs => frB b ++ frs rs
def splB (b : By) : List By := (splI b.length (numsL b)).map Lib.bytesOf
theorem be4_bytes (n : Int) : ∀ x ∈ be4 n, isByte x := by
  intro x hx
  unfold be4 at hx
  simp only [List.mem_cons, List.not_mem_nil, or_false] at hx
  unfold isByte
  rcases hx with rfl | rfl | rfl | rfl <;> omega
theorem nums_isByte (b : By) : ∀ x ∈ numsL b, isByte x := by
  intro x hx
  unfold numsL at hx
  obtain ⟨c, _, rfl⟩ := List.mem_map.1 hx
  have := c.toNat_lt
  unfold isByte
  omega
theorem nums_bytes (l : List Int) (h : ∀ x ∈ l, isByte x) : numsL (Lib.bytesOf l) = l := by
  unfold numsL Lib.bytesOf
  rw [List.map_map]
  conv => rhs; rw [← List.map_id l]
  refine List.map_congr_left fun x hx => ?_
  have hb := h x hx
  unfold isByte at hb
  show (((UInt8.ofNat x.toNat).toNat : Nat) : Int) = x
  rw [UInt8.toNat_ofNat_of_lt' (by show x.toNat < 256; omega)]
  omega
theorem nums_inj {a b : By} (h : numsL a = numsL b) : a = b := by rw [← bytes_nums a, ← bytes_nums b, h]
theorem frI_bytes (l : List Int) (h : ∀ x ∈ l, isByte x) : ∀ x ∈ frI l, isByte x := by
  unfold frI
  refine seal_bytes _ (fun x hx => ?_)
  rcases List.mem_append.1 hx with hx | hx
  · exact be4_bytes _ x hx
  · exact h x hx
theorem nums_frB (b : By) : numsL (frB b) = frI (numsL b) := nums_bytes _ (frI_bytes _ (nums_isByte b))
theorem frI_len (l : List Int) : (frI l).length = l.length + 8 := by
  unfold frI
  rw [seal_len, List.length_append]
  show 4 + l.length + 4 = _
  omega
theorem frB_len (b : By) : (frB b).length = b.length + 8 := by rw [← nums_len, nums_frB, frI_len, nums_len]
theorem val4_be4 (n : Int) (r : List Int) (h0 : 0 ≤ n) (h1 : n < 4294967296) : val4 (be4 n ++ r) = n := by
  show n / 16777216 % 256 * 16777216 + n / 65536 % 256 * 65536 + n / 256 % 256 * 256 + n % 256 = n
  omega
theorem val4_app (a r : List Int) (h : 4 ≤ a.length) : val4 (a ++ r) = val4 a := by
  have e : ∀ i : Nat, i < 4 → rd (a ++ r) (i : Int) = rd a (i : Int) := fun i hi => by
    unfold rd
    rw [Int.toNat_natCast, List.getD_eq_getElem?_getD, List.getD_eq_getElem?_getD, List.getElem?_append_left (by omega)]
  unfold val4
  have e0 : rd (a ++ r) 0 = rd a 0 := e 0 (by omega)
  have e1 : rd (a ++ r) 1 = rd a 1 := e 1 (by omega)
  have e2 : rd (a ++ r) 2 = rd a 2 := e 2 (by omega)
  have e3 : rd (a ++ r) 3 = rd a 3 := e 3 (by omega)
  rw [e0, e1, e2, e3]
theorem rd_byte' (l : List Int) (h : ∀ x ∈ l, isByte x) (i : Int) : 0 ≤ rd l i ∧ rd l i < 256 := rd_byte h i
theorem val4_range (b : List Int) (h : ∀ x ∈ b, isByte x) : 0 ≤ val4 b ∧ val4 b < 4294967296 := by
  have h0 := rd_byte' b h 0
  have h1 := rd_byte' b h 1
  have h2 := rd_byte' b h 2
  have h3 := rd_byte' b h 3
  unfold val4
  omega
/-- A frame ahead of whatever bytes is one, and says its record. -/
theorem okI_fr (x r : List Int) (hx : x.length ≤ 262144) : okI (frI x ++ r) = true ∧ (val4 (frI x ++ r)).toNat = x.length := by
  have hl := frI_len x
  have hv : val4 (frI x ++ r) = (x.length : Int) := by
    have : frI x ++ r = be4 x.length ++ (x ++ tail4 (sm (be4 x.length ++ x)) ++ r) := by
      unfold frI sealL
      simp only [List.append_assoc]
    rw [this]
    exact val4_be4 _ _ (by omega) (by omega)
  have hn : (val4 (frI x ++ r)).toNat = x.length := by rw [hv]; omega
  refine ⟨?_, hn⟩
  unfold okI
  rw [decide_eq_true_iff, hn, hv, List.length_append, hl]
  refine ⟨by omega, by omega, by omega, ?_⟩
  have h1 : (frI x ++ r).take (x.length + 4) = be4 x.length ++ x := by
    rw [List.take_append_of_le_length (by omega)]
    unfold frI sealL
    rw [List.take_append_of_le_length (by rw [List.length_append]; show _ ≤ 4 + x.length; omega), List.take_of_length_le (by rw [List.length_append]; show 4 + x.length ≤ _; omega)]
  have h2 : (frI x ++ r).take (x.length + 8) = frI x := by
    rw [List.take_append_of_le_length (by omega), List.take_of_length_le (by omega)]
  rw [h1, h2]
  rfl
theorem splI_fr (k : Nat) (x r : List Int) (hx : x.length ≤ 262144) : splI (k + 1) (frI x ++ r) = x :: splI k r := by
  obtain ⟨h1, h2⟩ := okI_fr x r hx
  have hl := frI_len x
  rw [splI, if_pos h1, h2]
  have e1 : ((frI x ++ r).take (x.length + 4)).drop 4 = x := by
    rw [List.take_append_of_le_length (by omega)]
    unfold frI sealL
    rw [List.take_append_of_le_length (by rw [List.length_append]; show _ ≤ 4 + x.length; omega), List.take_of_length_le (by rw [List.length_append]; show 4 + x.length ≤ _; omega)]
    exact List.drop_left' rfl
  have e2 : (frI x ++ r).drop (x.length + 8) = r := List.drop_left' hl
  rw [e1, e2]
/-- More rounds than there are bytes say nothing more. -/
theorem splI_more (b : List Int) : ∀ (k : Nat), b.length ≤ k → splI k b = splI b.length b := by
  have key : ∀ (n : Nat) (b : List Int), b.length ≤ n → ∀ k, n ≤ k → splI k b = splI n b := by
    intro n
    induction n with
    | zero =>
      intro b hb k hk
      have h0 : b = [] := List.eq_nil_of_length_eq_zero (by omega)
      subst h0
      cases k with
      | zero => rfl
      | succ k =>
        have h1 : okI [] = false := by unfold okI; simp
        show (if okI [] = true then _ else _) = _
        rw [if_neg (by rw [h1]; simp)]
        rfl
    | succ n ih =>
      intro b hb k hk
      obtain ⟨k, rfl⟩ : ∃ k', k = k' + 1 := ⟨k - 1, by omega⟩
      rw [splI, splI]
      split
      · rw [ih _ (by rw [List.length_drop]; omega) k (by omega)]
      · rfl
  intro k hk
  exact key b.length b (Nat.le_refl _) k hk
/-- What is too short for its frame says nothing. -/
theorem splI_cut (x : List Int) (t k : Nat) (hx : x.length ≤ 262144) (ht : t < x.length + 8) : splI k ((frI x).take t) = [] := by
  cases k with
  | zero => rfl
  | succ k =>
    have hl := frI_len x
    rw [splI, if_neg]
    intro h
    unfold okI at h
    rw [decide_eq_true_iff, List.length_take, hl] at h
    obtain ⟨h1, h2, h3, _⟩ := h
    have hv : val4 ((frI x).take t) = (x.length : Int) := by
      have e : frI x = (frI x).take t ++ (frI x).drop t := (List.take_append_drop t _).symm
      have h5 := (okI_fr x [] hx).2
      rw [List.append_nil] at h5
      have h6 := val4_app ((frI x).take t) ((frI x).drop t) (by rw [List.length_take, hl]; omega)
      rw [← e] at h6
      rw [← h6]
      have h7 : val4 (frI x) = (x.length : Int) := by
        have : frI x = be4 x.length ++ (x ++ tail4 (sm (be4 x.length ++ x))) := by
          unfold frI sealL
          rw [List.append_assoc]
        rw [this]
        exact val4_be4 _ _ (by omega) (by omega)
      exact h7
    rw [hv] at h3
    omega
theorem frs_len (rs : List By) : (frs rs).length = (rs.map (fun b => b.length + 8)).sum := by
  induction rs with
  | nil => rfl
  | cons b rs ih =>
    rw [frs, List.length_append, ih, frB_len, List.map_cons, List.sum_cons]
theorem frs_app (a b : List By) : frs (a ++ b) = frs a ++ frs b := by
  induction a with
  | nil => rfl
  | cons x a ih => rw [List.cons_append, frs, frs, ih, List.append_assoc]
theorem splI_frs (rs : List By) (r : List Int) (h : ∀ b ∈ rs, b.length ≤ 262144) : ∀ k, (rs.length + r.length) ≤ k → splI k (numsL (frs rs) ++ r) = rs.map numsL ++ splI r.length r := by
  induction rs with
  | nil =>
    intro k hk
    show splI k r = splI r.length r
    exact splI_more r k (by simpa using hk)
  | cons b rs ih =>
    intro k hk
    rw [List.length_cons] at hk
    obtain ⟨k, rfl⟩ : ∃ k', k = k' + 1 := ⟨k - 1, by omega⟩
    rw [frs, nums_app, nums_frB, List.append_assoc, splI_fr k _ _ (by rw [nums_len]; exact h b List.mem_cons_self), ih (fun x hx => h x (List.mem_cons_of_mem _ hx)) k (by omega)]
    rfl
theorem frs_ge (rs : List By) : rs.length ≤ (frs rs).length := by
  induction rs with
  | nil => exact Nat.le_refl _
  | cons b rs ih => rw [frs, List.length_append, frB_len, List.length_cons]; omega
theorem map_bytes (rs : List By) : (rs.map numsL).map Lib.bytesOf = rs := by
  rw [List.map_map]
  conv => rhs; rw [← List.map_id rs]
  exact List.map_congr_left fun b _ => bytes_nums b
/-- Whole frames, and less than one behind them. -/
theorem splB_frs (rs : List By) (x : By) (t : Nat) (h : ∀ b ∈ rs, b.length ≤ 262144) (hx : x.length ≤ 262144) (ht : t < x.length + 8) : splB (frs rs ++ (frB x).take t) = rs := by
  unfold splB
  rw [nums_app, ← nums_take, nums_frB, List.length_append]
  have h1 := frs_ge rs
  have h2 : ((frI (numsL x)).take t).length = ((frB x).take t).length := by rw [← nums_frB, nums_take, nums_len]
  rw [splI_frs rs _ h _ (by rw [h2]; omega), splI_cut _ _ _ (by rw [nums_len]; exact hx) (by rw [nums_len]; exact ht), List.append_nil, map_bytes]
theorem splB_whole (rs : List By) (h : ∀ b ∈ rs, b.length ≤ 262144) : splB (frs rs) = rs := by
  have := splB_frs rs [] 0 h (by simp) (by simp)
  rw [List.take_zero, List.append_nil] at this
  exact this
/-- What is split off is what the bytes begin with. -/
theorem splI_front : ∀ (k : Nat) (b : List Int), (∀ x ∈ b, isByte x) → ∃ r, b = ((splI k b).flatMap frI) ++ r ∧ (∀ x ∈ splI k b, x.length ≤ 262144 ∧ ∀ y ∈ x, isByte y) := by
  intro k
  induction k with
  | zero => intro b _; exact ⟨b, rfl, fun _ h => by cases h⟩
  | succ k ih =>
    intro b hb
    rw [splI]
    split
    · rename_i h
      unfold okI at h
      rw [decide_eq_true_iff] at h
      obtain ⟨h1, h2, h3, h4⟩ := h
      have hr := val4_range b hb
      obtain ⟨r, hr1, hr2⟩ := ih (b.drop ((val4 b).toNat + 8)) (fun x hx => hb x (List.mem_of_mem_drop hx))
      obtain ⟨n, hn⟩ : ∃ n : Nat, n = (val4 b).toNat := ⟨_, rfl⟩
      rw [← hn] at h3 h4 hr1 hr2 ⊢
      have hx : ((b.take (n + 4)).drop 4).length = n := by rw [List.length_drop, List.length_take]; omega
      have hb4 : b.take 4 = be4 (n : Int) := by
        have hv : val4 (b.take 4) = (n : Int) := by
          have := val4_app (b.take 4) (b.drop 4) (by rw [List.length_take]; omega)
          rw [List.take_append_drop] at this
          rw [← this, hn]
          omega
        obtain ⟨c0, c1, c2, c3, hc⟩ : ∃ c0 c1 c2 c3, b.take 4 = [c0, c1, c2, c3] := by
          have hl4 : (b.take 4).length = 4 := by rw [List.length_take]; omega
          match e : b.take 4, hl4 with
          | [c0, c1, c2, c3], _ => exact ⟨c0, c1, c2, c3, rfl⟩
        have hby : ∀ x ∈ b.take 4, isByte x := fun x hx => hb x (List.mem_of_mem_take hx)
        rw [hc] at hv hby ⊢
        have i0 := hby c0 (by simp)
        have i1 := hby c1 (by simp)
        have i2 := hby c2 (by simp)
        have i3 := hby c3 (by simp)
        unfold isByte at i0 i1 i2 i3
        have hv2 : c0 * 16777216 + c1 * 65536 + c2 * 256 + c3 = (n : Int) := hv
        unfold be4
        rw [← hv2]
        congr 1
        · omega
        congr 1
        · omega
        congr 1
        · omega
        congr 1
        omega
      have hfr : frI ((b.take (n + 4)).drop 4) = b.take (n + 8) := by
        unfold frI
        rw [hx, ← hb4, ← h4]
        congr 1
        have := List.take_append_drop 4 (b.take (n + 4))
        rw [List.take_take, Nat.min_eq_left (by omega)] at this
        exact this
      refine ⟨r, ?_, fun x hx2 => ?_⟩
      · rw [List.flatMap_cons, List.append_assoc, ← hr1, hfr, List.take_append_drop]
      · rcases List.mem_cons.1 hx2 with rfl | hx2
        · exact ⟨by rw [hx]; omega, fun y hy => hb y (List.mem_of_mem_take (List.mem_of_mem_drop hy))⟩
        · exact hr2 x hx2
    · exact ⟨b, rfl, fun _ h => by cases h⟩
theorem frs_nums (rs : List (List Int)) (h : ∀ x ∈ rs, ∀ y ∈ x, isByte y) : numsL (frs (rs.map Lib.bytesOf)) = rs.flatMap frI := by
  induction rs with
  | nil => rfl
  | cons x rs ih =>
    rw [List.map_cons, frs, nums_app, nums_frB, nums_bytes x (h x List.mem_cons_self), ih (fun y hy => h y (List.mem_cons_of_mem _ hy)), List.flatMap_cons]
theorem splB_front (b : By) : (∃ r, b = frs (splB b) ++ r) ∧ ∀ x ∈ splB b, x.length ≤ 262144 := by
  obtain ⟨r, h1, h2⟩ := splI_front b.length (numsL b) (nums_isByte b)
  constructor
  · refine ⟨b.drop (frs (splB b)).length, ?_⟩
    have h3 := frs_nums (splI b.length (numsL b)) (fun x hx => (h2 x hx).2)
    rw [← h3] at h1
    have h4 : b.take (frs (splB b)).length = frs (splB b) := by
      apply nums_inj
      rw [← nums_take, h1]
      exact List.take_left' (by rw [nums_len]; rfl)
    conv => lhs; rw [← List.take_append_drop (frs (splB b)).length b]
    rw [h4]
  · intro x hx
    obtain ⟨y, hy, rfl⟩ := List.mem_map.1 hx
    have := (h2 y hy).1
    show (Lib.bytesOf y).length ≤ _
    rw [← nums_len, nums_bytes y (h2 y hy).2]
    exact this
/-! ## The log -/
structure LSt where
  name : ByteArray
  recs : List By
  down : Bool
def logB (c : UInt8) : Bool := 97 ≤ c && c ≤ 122
def logGood (s : ByteArray) : Bool := s.data.toList.all logB && !(s.size == 0) && decide (s.size ≤ 20)
def dotNew : ByteArray := ⟨#[46, 110, 101, 119]⟩
def newN (s : ByteArray) : ByteArray := s ++ dotNew
def layR (st : DSt) (s : ByteArray) (rs : List By) : Int :=
  if appendR st (newN s) (frs rs).length ≠ 0 then appendR st (newN s) (frs rs).length
  else if doneR (appendS st (newN s) (frs rs)) ≠ 0 then doneR (appendS st (newN s) (frs rs))
  else if renameR (syncS (appendS st (newN s) (frs rs))) (newN s) s ≠ 0 then renameR (syncS (appendS st (newN s) (frs rs))) (newN s) s
  else doneR (renameS (syncS (appendS st (newN s) (frs rs))) (newN s) s)
def layS (st : DSt) (s : ByteArray) (rs : List By) : DSt :=
  if appendR st (newN s) (frs rs).length ≠ 0 then appendS st (newN s) (frs rs)
  else if doneR (appendS st (newN s) (frs rs)) ≠ 0 then syncS (appendS st (newN s) (frs rs))
  else if renameR (syncS (appendS st (newN s) (frs rs))) (newN s) s ≠ 0 then renameS (syncS (appendS st (newN s) (frs rs))) (newN s) s
  else syncS (renameS (syncS (appendS st (newN s) (frs rs))) (newN s) s)
def bigB (rs : List By) : Bool := rs.any (fun b => decide (262144 < b.length))
def mayR (l : LSt) (rs : List By) : Int := if bigB rs = true then 9 else if l.down = true then 6 else 0
def toldS (l : LSt) (e : Int) : LSt := { l with down := l.down || e == 6 }
def lappR (l : LSt) (st : DSt) (b : By) : Int :=
  if mayR l [b] ≠ 0 then mayR l [b] else if appendR st l.name (frB b).length ≠ 0 then appendR st l.name (frB b).length else doneR (appendS st l.name (frB b))
def lappL (l : LSt) (st : DSt) (b : By) : LSt :=
  if mayR l [b] ≠ 0 then l else if appendR st l.name (frB b).length ≠ 0 then toldS l (appendR st l.name (frB b).length)
  else if doneR (appendS st l.name (frB b)) ≠ 0 then toldS l (doneR (appendS st l.name (frB b))) else { l with recs := l.recs ++ [b] }
def lappS (l : LSt) (st : DSt) (b : By) : DSt :=
  if mayR l [b] ≠ 0 then st else if appendR st l.name (frB b).length ≠ 0 then appendS st l.name (frB b) else syncS (appendS st l.name (frB b))
def lcomR (l : LSt) (st : DSt) (rs : List By) : Int := if mayR l rs ≠ 0 then mayR l rs else layR st l.name rs
def lcomL (l : LSt) (st : DSt) (rs : List By) : LSt := if mayR l rs ≠ 0 then l else if layR st l.name rs ≠ 0 then toldS l (layR st l.name rs) else { l with recs := rs }
def lcomS (l : LSt) (st : DSt) (rs : List By) : DSt := if mayR l rs ≠ 0 then st else layS st l.name rs
/-- Whether Open goes on behind an answer. -/
def goesB (e : Int) : Bool := e == 0 || e == 3
def opR (st : DSt) (s : ByteArray) : Int :=
  if logGood s = false then 1 else if goesB (removeR st (newN s)) = false then removeR st (newN s)
  else if goesB (readR (removeS st (newN s)) s) = false then readR (removeS st (newN s)) s
  else if (frs (splB (readB (removeS st (newN s)) s))).length < (readB (removeS st (newN s)) s).length then layR (removeS st (newN s)) s (splB (readB (removeS st (newN s)) s)) else 0
def opS (st : DSt) (s : ByteArray) : DSt :=
  if logGood s = false then st else if goesB (removeR st (newN s)) = false then removeS st (newN s)
  else if goesB (readR (removeS st (newN s)) s) = false then removeS st (newN s)
  else if (frs (splB (readB (removeS st (newN s)) s))).length < (readB (removeS st (newN s)) s).length then layS (removeS st (newN s)) s (splB (readB (removeS st (newN s)) s)) else removeS st (newN s)
def opL (st : DSt) (s : ByteArray) : LSt := ⟨s, splB (readB (removeS st (newN s)) s), false⟩
end Go.Proofs.Ytipclnniaenciaa.Hand
