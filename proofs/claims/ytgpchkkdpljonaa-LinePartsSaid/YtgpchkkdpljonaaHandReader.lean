/- line.Reader: New, Feed, Left, Next, over memory: a reader holds bytes. -/
import Derived.Test.YtgpchkkdpljonaaShelf
import Derived.Test.YtgpchkkdpljonaaWMore
import Derived.Test.YtgpchkkdpljonaaWKept
import Derived.Test.YtgpchkkdpljonaaPBx
import Derived.WalkKit
import Derived.ProofKit
import Derived.Lib.SlBytesConst
namespace Go.Proofs.Ytgpchkkdpljonaa.Hand
open Go.RowKit Go.Proofs.YtgpchkkdpljonaaW.PrintWords Go.Proofs.YtgpchkkdpljonaaW.PrintLast Go.Proofs.YtgpchkkdpljonaaW.PrintMore
set_option linter.unusedVariables false
set_option linter.unusedSimpArgs false
theorem infoU8 : (Try.prog.info? 5).map (fun i => (i.zero, i.size, i.bytes)) = some (some (.int .u8 0), 1, 1) := by kernel_rfl
def mkS (l : List UInt8) : ByteArray := ⟨l.toArray⟩
def numsL (l : List UInt8) : List Int := l.map fun b => (b.toNat : Int)
theorem nums_len (l : List UInt8) : (numsL l).length = l.length := by unfold numsL; rw [List.length_map]
theorem nums_app (a b : List UInt8) : numsL (a ++ b) = numsL a ++ numsL b := by unfold numsL; rw [List.map_append]
/-- A reader at block p: it holds the bytes l, in the slice v. -/
def Rdr (w : World) (base p : Nat) (v : Value) (l : List UInt8) : Prop :=
  base ≤ p ∧ w.heap[p]? = some (.cells #[v] 42 (0, 0)) ∧ Kd.R (Kd.int .u8) 5 w base (fun k => k ≠ p) v (numsL l)
theorem Rdr.slice {w : World} {base p : Nat} {v : Value} {l : List UInt8} (h : Rdr w base p v l) : ∃ A c, v = .slice A l.length c ∧ l.length ≤ c ∧ Kd.C (Kd.int .u8) w A (numsL l).length (numsL l) := by
  obtain ⟨A, c, e, hl, hC⟩ := Kd.R_reads h.2.2
  rw [nums_len] at e hl
  exact ⟨A, c, e, hl, hC⟩
set_option maxHeartbeats 4000000 in
theorem Left_calls (w : World) (base p : Nat) (v : Value) (l : List UInt8) (h : Rdr w base p v l) :
    Calls Try.prog 12 #[.pointer (some ⟨p, 0, none⟩)] w fun e w' => e = .returned (.int .i64 l.length) ∧ w = w' := by
  obtain ⟨A, c, rfl, hlc, hC⟩ := h.slice
  have hcz : w.cell? ⟨p, 0, none⟩ = some (.slice A l.length c) := (blk_cell h.2.1 0).trans rfl
  clear hC h
  go_enter Try.func12, Try.ntmps12
  go_wp2
  go_ret
  exact ⟨rfl, rfl⟩
set_option maxHeartbeats 4000000 in
theorem New_calls (w : World) :
    Calls Try.prog 8 #[] w fun e w' => e = .returned (.pointer (some ⟨w.heap.size, 0, none⟩)) ∧ w' = w.alloc (.cells #[.slice none 0 0] 42) := by
  go_enter Try.func8, Try.ntmps8
  go_wp2
  go_ret
  exact ⟨rfl, rfl⟩
theorem Rdr.new (w : World) (base : Nat) (hb : base ≤ w.heap.size) : Rdr (w.alloc (.cells #[.slice none 0 0] 42)) base w.heap.size (.slice none 0 0) [] :=
  ⟨hb, heap_alloc_new w _, Kd.R_nil _ _ _ _ _⟩
set_option maxHeartbeats 4000000 in
theorem Feed_calls (w : World) (base p : Nat) (v : Value) (l xs : List UInt8) (A : Option Addr) (c : Nat) (h : Rdr w base p v l) (hbase : base ≤ w.heap.size) (hr : Kd.C (Kd.int .u8) w A (numsL xs).length (numsL xs)) (hsz : l.length + xs.length ≤ 1000000000000) :
    Calls Try.prog 9 #[.pointer (some ⟨p, 0, none⟩), .slice A (numsL xs).length c] w fun e w' => ∃ v', e = .returned (.tuple #[]) ∧ Rdr w' base p v' (l ++ xs) ∧ Below base w w' ∧ Kept w w' (fun k => k = p ∨ some k = v.ownBlock) ∧ (∀ k, v'.ownBlock = some k → v.ownBlock = some k ∨ w.heap.size ≤ k) := by
  have hcz : w.cell? ⟨p, 0, none⟩ = some v := (blk_cell h.2.1 0).trans rfl
  have hfz := blk_frozen h.2.1 0
  have H := Aside0.mk h
  have HR := Aside0.mk hr
  clear h hr
  go_enter Try.func9, Try.ntmps9
  have hpl := blk_lt H.out.2.1
  go_wp2_with ((with_reducible refine gate_builtin (b := .append) (xs := #[.tmp 10, .tmp 11]) rfl ?_); at_builtin; refine Kd.R_append_rows (Kd.int .u8) (Rr := (Kd.int .u8).K w) (w0 := w) base rfl (.tmp 10) (.tmp 11) 22 5 (.int .u8 0) 1 rfl Try.underlying22 infoU8 rfl (by decide) (by omega) v (numsL l) (numsL xs) A (numsL xs).length c (fun k => k ≠ p) (fun _ => False) rfl rfl ?aO ?aR ?aK (fun _ hk => hk.elim) ?aF ?aB ?aS ?aL ?_; (case aO => exact H.out.2.2); (case aR => exact HR.out); (case aK => exact fun x cs hx => hx); (case aF => exact fun k hk => by omega); (case aB => exact Below.refl _ _); (case aS => exact hbase); (case aL => rw [nums_len, nums_len]; omega); intro v1 w1 ho hb1 hg hat; obtain ⟨A1, c1, rfl⟩ := Kd.R_slice ho; have HO := Aside0.mk ho; have HB1 := Aside0.mk hb1; have HG := Aside0.mk hg; have HAT := Aside0.mk hat; have hbk := blk_grown H.out.2.1 hg (fun e => H.out.2.2.1 p e.symm rfl); have hcz1 := (blk_cell hbk 0).trans rfl; have hfz1 := blk_frozen hbk 0; have HBK := Aside0.mk hbk; clear ho hb1 hg hat hbk)
  refine bodyPost_end (results_none rfl _ _ _) rfl ?_
  have e1 : (numsL l).length + (numsL xs).length = (numsL l ++ numsL xs).length := by rw [List.length_append]
  rw [e1]
  refine ⟨_, rfl, ⟨H.out.1, ?_, ?_⟩, ?_, ?_, fun k hk => HAT.out.elim (fun e => .inl (e.symm.trans hk)) (fun ⟨b, e, hb⟩ => .inr (by rw [e] at hk; injection hk with hk; omega))⟩
  · exact (blk_set HBK.out 0 _).trans (by simp)
  · rw [nums_app]
    exact Kd.R_far HO.out (p := ⟨p, 0, none⟩) (fun k hk => hk) _
  · exact HB1.out.setCell (p := ⟨p, 0, none⟩) H.out.1 _
  · refine ⟨by have := HG.out.size; simpa [World.setCell] using this, fun i hi hS => ?_⟩
    rw [Below.heap_setCell w1 ⟨p, 0, none⟩ _ i (fun e => hS (.inl e))]
    exact HG.out.block i hi (fun e => hS (.inr e))
/-! ## Next -/
def lineOf (most : Int) (b : List UInt8) : Int × ByteArray :=
  if ((b.length + 2 : Nat) : Int) > most then (2, ⟨#[]⟩) else if b.any (fun c => c == 0 || c == 13 || c == 10) then (3, ⟨#[]⟩) else (1, mkS b)
/-- The first line, and what waits behind it. -/
def nextL (most : Int) (l : List UInt8) : (Int × ByteArray × Bool) × List UInt8 :=
  if 0 ≤ Lib.index l [13, 10] then (((lineOf most (l.take (Lib.index l [13, 10]).toNat)).1, (lineOf most (l.take (Lib.index l [13, 10]).toNat)).2, true), l.drop ((Lib.index l [13, 10]).toNat + 2)) else ((0, ⟨#[]⟩, false), l)
theorem idx_ge (l : List UInt8) (c : UInt8) : (decide (Lib.indexByte l c ≥ 0)) = l.any (· == c) := by
  induction l with
  | nil => rfl
  | cons x l ih =>
    rw [Lib.indexByte, List.any_cons]
    by_cases e : x = c
    · rw [if_pos (by simpa using e)]
      simp [e]
    · rw [if_neg (by simpa using e)]
      have hx : (x == c) = false := by simpa using e
      rw [hx, Bool.false_or, ← ih]
      by_cases h : Lib.indexByte l c = -1
      · rw [if_pos (by simpa using h), h]
      · rw [if_neg (by simpa using h), decide_eq_decide]
        have : Lib.indexByte l c ≥ -1 := by
          clear ih h hx e
          induction l with
          | nil => simp [Lib.indexByte]
          | cons y l ih2 =>
            rw [Lib.indexByte]
            split
            · omega
            · split
              · omega
              · have h3 : ¬ Lib.indexByte l c = -1 := by simpa using ‹¬ (Lib.indexByte l c == -1) = true›
                omega
        constructor <;> intro <;> omega
theorem C_block {W : World} {k : IntKind} {g e : Nat} {fr : Nat × Nat} {xs : List Int} {cs : Array Value} (hb : W.heap[g]? = some (.cells cs e fr)) (hcs : cs = ((xs.map (Value.int k)).toArray)) (hn : xs.length ≤ 9223372036854775807) : Kd.C (Kd.int k) W (some ⟨g, 0, none⟩) xs.length xs := by
  subst hcs
  refine Kd.C_of_reads (d := (0 : Int)) ⟨rfl, hn, fun _ => ⟨_, rfl, fun j hj => ?_⟩⟩
  rw [add_plain]
  simp [World.cell?, hb, List.getD_eq_getElem?_getD, hj]
theorem own_nil {w : World} {base : Nat} {ok : Nat → Prop} {n c : Nat} {xs : List Int} (h : Kd.R (Kd.int .u8) 5 w base ok (.slice none n c) xs) : c = 0 := by
  obtain ⟨inner, ho⟩ := Kd.R_own h
  rcases ho.2 with ⟨h1, _⟩ | ⟨g, cap, cur, h1, _⟩
  · injection h1
  · injection h1 with h1
    cases h1
theorem bytes_nums (l : List UInt8) : Lib.bytesOf (numsL l) = l := by
  unfold Lib.bytesOf numsL
  rw [List.map_map]
  conv => rhs; rw [← List.map_id l]
  exact List.map_congr_left fun b _ => by simp
theorem nums_take (l : List UInt8) (n : Nat) : (numsL l).take n = numsL (l.take n) := by unfold numsL; rw [List.map_take]
theorem nums_drop (l : List UInt8) (n : Nat) : (numsL l).drop n = numsL (l.drop n) := by unfold numsL; rw [List.map_drop]
theorem nums_byte (l : List UInt8) : ∀ x ∈ numsL l, 0 ≤ x ∧ x < 256 := by
  intro x hx
  unfold numsL at hx
  obtain ⟨b, _, rfl⟩ := List.mem_map.1 hx
  have := b.toNat_lt
  omega
theorem bytes_in {w : World} {A : Option Addr} {n : Nat} {xs : List Int} (h : ReadsInt w .u8 A n xs) : Lib.BytesIn w A n xs := fun hn => by
  obtain ⟨ad, rfl, hc⟩ := h.2.2 hn
  exact Lib.BytesIn.of_cells hc hn
theorem crlf_nums : Lib.bytesOf [13, 10] = [13, 10] := rfl
theorem cut_calls (W : World) (A : Option Addr) (c : Nat) (l : List UInt8) (B : Option Addr) (m : Int) (hr : ReadsInt W .u8 A l.length (numsL l)) (hcap : l.length ≤ c) (hnil : A = none → c = 0) (hs : l.length < 1000000000) (hB : ReadsInt W .u8 B 2 [13, 10]) (hm : W.cell? ⟨0, 0, none⟩ = some (.int .i64 m)) :
    Calls Try.prog 14 #[.slice A l.length c, .slice B 2 2] W fun e w' => e = .returned (Lib.cutV A l.length c 2 (Lib.index l [13, 10])) ∧ ∃ q, w' = W.drewN q := by
  have := Try.bytes_Cut_all A B l.length c 2 2 (numsL l) [13, 10] m W (nums_len l) rfl (nums_byte l) (by simp) (bytes_in hr) (bytes_in hB) hnil hcap (by omega) (by omega) hm
  rw [bytes_nums, crlf_nums] at this
  exact this
theorem clone_calls (W : World) (A : Option Addr) (c : Nat) (l : List UInt8) (hr : ReadsInt W .u8 A l.length (numsL l)) (hs : l.length < 1000000000) :
    Calls Try.prog 15 #[.slice A l.length c] W fun e w' => ∃ v', e = .returned v' ∧ Kd.R (Kd.int .u8) 5 w' W.heap.size (fun k => W.heap.size ≤ k) v' (numsL l) ∧ Below W.heap.size W w' := by
  cases A with
  | none =>
    have h0 : l = [] := by
      refine List.eq_nil_of_length_eq_zero (Nat.eq_zero_of_not_pos fun h => ?_)
      obtain ⟨ad, e, _⟩ := hr.2.2 h
      cases e
    subst h0
    refine (Try.bytes_Clone_nil _ c W).mono ?_
    rintro e w' ⟨rfl, rfl⟩
    exact ⟨_, rfl, Kd.R_nil _ _ _ _ _, Below.refl _ _⟩
  | some ad =>
    refine (Try.bytes_Clone_at ad l.length c (numsL l) W (nums_len l) (by omega) (fun i hi => ?_)).mono ?_
    · obtain ⟨ad', e, hc⟩ := hr.2.2 (by omega)
      injection e with e
      rw [e]
      exact hc i hi
    · rintro e w' ⟨v', rfl, ho, _, hb⟩
      refine ⟨v', rfl, Kd.R_of_own ?_ (fun k hk => ?_), hb⟩
      · rw [nums_len]
        exact ho
      · rcases own_base' ho with h | ⟨b, h, hb'⟩
        · rw [h] at hk
          cases hk
        · rw [h] at hk
          injection hk with hk
          omega
theorem byte_calls (W : World) (ad : Addr) (n c : Nat) (l : List UInt8) (cv : UInt8) (hr : ReadsInt W .u8 (some ad) n (numsL l)) :
    Calls Try.prog 16 #[.slice (some ad) n c, .int .u8 (cv.toNat : Int)] W fun e w' => e = .returned (.int .i64 (Lib.indexByte l cv)) ∧ w' = W := by
  have := Try.bytes_IndexByte_at ad n c (numsL l) (cv.toNat : Int) W hr.1 (fun i hi => by
    obtain ⟨ad', e, hc⟩ := hr.2.2 (by omega)
    injection e with e
    rw [e]
    exact hc i hi)
  rw [bytes_nums] at this
  have e : (cv.toNat : Int).toNat.toUInt8 = cv := by simp
  rw [e] at this
  exact this
theorem str_nums (l : List UInt8) : strOfNums (numsL l) = mkS l := by
  unfold mkS
  apply ByteArray.ext
  apply Array.toList_inj.1
  rw [← Lib.toList_data, Lib.strOfNums_toList, bytes_nums]
theorem byte_any (l : List UInt8) : l.any (fun c => c == 0 || c == 13 || c == 10) = (l.any (· == 0) || l.any (· == 13) || l.any (· == 10)) := by
  induction l with
  | nil => rfl
  | cons x l ih =>
    simp only [List.any_cons, ih]
    cases (x == 0) <;> cases (x == 13) <;> cases (x == 10) <;> simp
theorem any_idx (b : List UInt8) : b.any (fun c => c == 0 || c == 13 || c == 10) = (decide (0 ≤ Lib.indexByte b 0) || decide (0 ≤ Lib.indexByte b 13) || decide (0 ≤ Lib.indexByte b 10)) := by
  rw [byte_any, ← idx_ge, ← idx_ge, ← idx_ge]
theorem lineOf_long {most : Int} {b : List UInt8} (h : most < (b.length : Int) + 2) : lineOf most b = (2, ⟨#[]⟩) := by
  unfold lineOf
  rw [if_pos (by omega)]
theorem lineOf_odd {most : Int} {b : List UInt8} (h : ¬ most < (b.length : Int) + 2) (h2 : 0 ≤ Lib.indexByte b 0 ∨ 0 ≤ Lib.indexByte b 13 ∨ 0 ≤ Lib.indexByte b 10) : lineOf most b = (3, ⟨#[]⟩) := by
  unfold lineOf
  rw [if_neg (by omega), if_pos (by rw [any_idx]; simp only [Bool.or_eq_true, decide_eq_true_eq]; omega)]
theorem lineOf_good {most : Int} {b : List UInt8} (h : ¬ most < (b.length : Int) + 2) (h2 : ¬ 0 ≤ Lib.indexByte b 0 ∧ ¬ 0 ≤ Lib.indexByte b 13 ∧ ¬ 0 ≤ Lib.indexByte b 10) : lineOf most b = (1, mkS b) := by
  unfold lineOf
  rw [if_neg (by omega), if_neg (by rw [any_idx]; simp only [Bool.or_eq_true, decide_eq_true_eq]; omega)]
set_option maxHeartbeats 8000000 in
theorem Next_calls (w : World) (base p : Nat) (v : Value) (l : List UInt8) (most m : Int) (h : Rdr w base p v l) (hbase : base ≤ w.heap.size) (hsz : l.length < 1000000000) (hm : w.cell? ⟨0, 0, none⟩ = some (.int .i64 m)) :
    Calls Try.prog 10 #[.pointer (some ⟨p, 0, none⟩), .int .i64 most] w fun e w' => ∃ v', e = .returned (.tuple #[.agg #[.int .i64 (nextL most l).1.1, .string (nextL most l).1.2.1], .bool (nextL most l).1.2.2]) ∧ Rdr w' base p v' (nextL most l).2 ∧ Below base w w' ∧ Kept w w' (fun k => k = p) ∧ (∀ k, v'.ownBlock = some k → v.ownBlock = some k ∨ w.heap.size ≤ k) := by
  obtain ⟨A, c, rfl, hlc, hC⟩ := h.slice
  have hpl := blk_lt h.2.1
  have hp0 : p ≠ 0 := fun e => by
    subst e
    rw [(blk_cell h.2.1 0).trans rfl] at hm
    cases hm
  have hcz : ∀ o, (w.alloc o).cell? ⟨p, 0, none⟩ = some (.slice A l.length c) := fun o => (blk_cell (blk_alloc h.2.1 o) 0).trans rfl
  have H := Aside0.mk h
  have HC := Aside0.mk hC
  have HM := Aside0.mk hm
  have kc : ∀ (X : Obj), (convert 22 22 (.slice (some ⟨w.heap.size + 1, 0, none⟩) 2 2)).run Try.prog ((w.alloc X).alloc (.cells #[.int .u8 13, .int .u8 10] 5)) = .ok (.slice (some ⟨w.heap.size + 1, 0, none⟩) 2 2) ((w.alloc X).alloc (.cells #[.int .u8 13, .int .u8 10] 5 (2, 3))) := fun X => by
    have := Lib.run_convert_bytes_const (P := Try.prog) (w.alloc X) 22 5 #[.int .u8 13, .int .u8 10] 2 2 Try.underlying22 Try.underlying5
    simpa using this
  clear h hC hm
  have hnil : A = none → c = 0 := fun e => by
    subst e
    exact own_nil H.out.2.2
  have HCUT : Aside0 (∀ X, Calls Try.prog 14 #[.slice A l.length c, .slice (some ⟨w.heap.size + 1, 0, none⟩) 2 2] ((w.alloc X).alloc (.cells #[.int .u8 13, .int .u8 10] 5 (2, 3))) fun e w' => e = .returned (Lib.cutV A l.length c 2 (Lib.index l [13, 10])) ∧ ∃ q, w' = ((w.alloc X).alloc (.cells #[.int .u8 13, .int .u8 10] 5 (2, 3))).drewN q) := ⟨fun X => by
    have hr0 : ReadsInt w .u8 A l.length (numsL l) := by
      have := Kd.reads_of_C (d := (0 : Int)) HC.out
      rw [nums_len] at this
      exact this
    have h0 := World.block_lt_of_cell? w _ HM.out
    have hsz1 : (w.alloc X).heap.size = w.heap.size + 1 := Array.size_push ..
    have hb : ((w.alloc X).alloc (.cells #[.int .u8 13, .int .u8 10] 5 (2, 3))).heap[w.heap.size + 1]? = some (.cells #[.int .u8 13, .int .u8 10] 5 (2, 3)) := by
      rw [← hsz1]
      exact heap_alloc_new (w.alloc X) _
    have hcb := Kd.reads_of_C (d := (0 : Int)) (C_block (k := .u8) (xs := [13, 10]) hb rfl (by simp))
    refine cut_calls _ A c l _ m ((hr0.allocS X).allocS _) hlc hnil (by omega) hcb ?_
    rw [(((Below.refl w.heap.size w).alloc (Nat.le_refl _) X).alloc (by omega) _).cell h0]
    exact HM.out⟩
  have hi1 := Lib.index_ge l [13, 10]
  by_cases hi : 0 ≤ Lib.index l [13, 10]
  · obtain ⟨i, hii⟩ : ∃ i : Nat, Lib.index l [13, 10] = i := ⟨_, (Int.toNat_of_nonneg hi).symm⟩
    have hroom := Lib.index_room l [13, 10] hi
    rw [hii] at hroom
    have hroom' : i + 2 ≤ l.length := by simp at hroom; omega
    have hcut : Lib.cutV A l.length c 2 (Lib.index l [13, 10]) = .tuple #[.slice A i c, .slice (if c = i + 2 then A else A.map (·.add (i + 2))) (l.length - (i + 2)) (c - (i + 2)), .bool true] := by
      unfold Lib.cutV Lib.fromV
      rw [hii, if_pos (by omega)]
      rfl
    rw [hcut] at HCUT
    obtain ⟨ad, rfl⟩ : ∃ ad, A = some ad := by
      have hr0 := Kd.reads_of_C (d := (0 : Int)) HC.out
      rw [nums_len] at hr0
      obtain ⟨ad, e, _⟩ := hr0.2.2 (by omega)
      exact ⟨ad, e⟩
    have hif : (if c = i + 2 then some ad else (some ad).map (·.add (i + 2))) = some (if c = i + 2 then ad else ad.add (i + 2)) := by split <;> rfl
    rw [hif] at HCUT
    obtain ⟨ad2, had2⟩ : ∃ ad2, ad2 = (if c = i + 2 then ad else ad.add (i + 2)) := ⟨_, rfl⟩
    rw [← had2] at HCUT
    have hrw : ReadsInt w .u8 (some ad) l.length (numsL l) := by
      have := Kd.reads_of_C (d := (0 : Int)) HC.out
      rw [nums_len] at this
      exact this
    have HB := Aside0.mk (hrw.take_ i (by omega))
    have hrest : ReadsInt w .u8 (some ad2) (l.drop (i + 2)).length (numsL (l.drop (i + 2))) := by
      have := hrw.drop_ (c := c) (i + 2) hroom' hlc
      rw [hif, ← had2, nums_drop] at this
      rw [List.length_drop]
      exact this
    have HR := Aside0.mk hrest
    rw [nums_take] at HB
    have hdl : l.length - (i + 2) = (l.drop (i + 2)).length := (List.length_drop ..).symm
    have HCLONE : Aside0 (∀ W, Below w.heap.size w W → Calls Try.prog 15 #[.slice (some ad2) (l.length - (i + 2)) (c - (i + 2))] W fun e w' => ∃ v', e = .returned v' ∧ Kd.R (Kd.int .u8) 5 w' W.heap.size (fun k => W.heap.size ≤ k) v' (numsL (l.drop (i + 2))) ∧ Below W.heap.size W w') := ⟨fun W hW => by rw [hdl]; exact clone_calls W _ _ _ (HR.out.below hW) (by rw [List.length_drop]; omega)⟩
    have hadp : ad.block ≠ p := fun e => H.out.2.2.1 ad.block rfl e
    have hset : ∀ W, Below w.heap.size w W → ∀ u, ReadsInt (W.setCell ⟨p, 0, none⟩ u) .u8 (some ad) i (numsL (l.take i)) := fun W hW u => by
      have h1 := HB.out.below hW
      refine ⟨h1.1, h1.2.1, fun hp => ?_⟩
      obtain ⟨ad', e, hc⟩ := h1.2.2 hp
      refine ⟨ad', e, fun j hj => ?_⟩
      injection e with e
      subst e
      have hne : (ad.add j).block ≠ p := by rw [add_block]; exact hadp
      rw [World.cell?_of_block (w := W) (Below.heap_setCell W ⟨p, 0, none⟩ u _ hne)]
      exact hc j hj
    have HBYTE : Aside0 (∀ W (cv : UInt8) u, Below w.heap.size w W → Calls Try.prog 16 #[.slice (some ad) i c, .int .u8 (cv.toNat : Int)] (W.setCell ⟨p, 0, none⟩ u) fun e w' => e = .returned (.int .i64 (Lib.indexByte (l.take i) cv)) ∧ w' = (W.setCell ⟨p, 0, none⟩ u)) := ⟨fun W cv u hW => byte_calls _ ad i c _ cv (hset W hW u)⟩
    have HSTR : Aside0 (∀ W u, Below w.heap.size w W → (convert 22 9 (.slice (some ad) i c)).run Try.prog (W.setCell ⟨p, 0, none⟩ u) = .ok (.string (mkS (l.take i))) (W.setCell ⟨p, 0, none⟩ u)) := ⟨fun W u hW => by
      rw [← str_nums]
      exact Kd.C_string Try.underlying22 Try.underlying5 Try.underlying9 (Kd.C_of_reads (d := (0 : Int)) (hset W hW u))⟩
    have hn : nextL most l = (((lineOf most (l.take i)).1, (lineOf most (l.take i)).2, true), l.drop (i + 2)) := by unfold nextL; rw [if_pos hi, hii]; rfl
    have htl : (l.take i).length = i := by rw [List.length_take]; omega
    have HN := Aside0.mk hn
    have HI := Aside0.mk hii
    have HIF := Aside0.mk hif
    have HAD := Aside0.mk had2
    have HTL := Aside0.mk htl
    clear hi hi1 hn hcut hii hif had2 hrest hrw htl hdl hroom hset hadp
    go_enter Try.func10, Try.ntmps10
    go_wp2_with (go_at_call 14; refine (HCUT.out _).mono ?_; rintro e w' ⟨rfl, q, rfl⟩)
    have hbW1 : Below w.heap.size w (((w.alloc (Obj.cells #[Value.int IntKind.i64 0, Value.string { data := #[] }] 29)).alloc (Obj.cells #[Value.int IntKind.u8 13, Value.int IntKind.u8 10] 5 (2, 3))).drewN q) := pw_below_drewN (below_alloc (below_alloc (Below.refl _ _) _) _) _
    have hnb : (((w.alloc (Obj.cells #[Value.int IntKind.i64 0, Value.string { data := #[] }] 29)).alloc (Obj.cells #[Value.int IntKind.u8 13, Value.int IntKind.u8 10] 5 (2, 3))).drewN q).heap[w.heap.size]? = some (Obj.cells #[Value.int IntKind.i64 0, Value.string { data := #[] }] 29) := by refine blk_drewN ?_ _; refine blk_alloc ?_ _; exact blk_new _ _
    refine (HCLONE.out _ hbW1).mono ?_
    rintro e w1 ⟨v1, rfl, hR1, hb1⟩
    obtain ⟨A1, c1, rfl⟩ := Kd.R_slice hR1
    have hbW := below_step hbW1 hb1
    have hbk := blk_below H.out.2.1 hbW
    have hnk := blk_below hnb hb1
    have hbig : w.heap.size ≤ (((w.alloc (Obj.cells #[Value.int IntKind.i64 0, Value.string { data := #[] }] 29)).alloc (Obj.cells #[Value.int IntKind.u8 13, Value.int IntKind.u8 10] 5 (2, 3))).drewN q).heap.size := hbW1.size
    have hbig2 : (((w.alloc (Obj.cells #[Value.int IntKind.i64 0, Value.string { data := #[] }] 29)).alloc (Obj.cells #[Value.int IntKind.u8 13, Value.int IntKind.u8 10] 5 (2, 3))).drewN q).heap.size = w.heap.size + 2 := by
      show ((w.heap.push _).push _).size = _
      rw [Array.size_push, Array.size_push]
    have hR2 : Kd.R (Kd.int .u8) 5 w1 w.heap.size (fun k => w.heap.size + 1 ≤ k) (.slice A1 (numsL (l.drop (i + 2))).length c1) (numsL (l.drop (i + 2))) := Kd.R_lower (Kd.R_mono hR1 (fun k hk => by omega)) hbig
    have hcz1 := (blk_cell hbk 0).trans rfl
    have hfz1 := blk_frozen hbk 0
    have hnz0 := (blk_cell hnk 0).trans rfl
    have hnf0 := blk_frozen hnk 0
    have hnz1 := (blk_cell hnk 1).trans rfl
    have hnf1 := blk_frozen hnk 1
    have HBW := Aside0.mk hbW
    have HBK := Aside0.mk hbk
    have HNK := Aside0.mk hnk
    have HR2 := Aside0.mk hR2
    have hpn : w.heap.size ≠ p := by omega
    have HROW : Aside0 (∀ (k : Int) (b : ByteArray), (((w1.setCell ⟨p, 0, none⟩ (.slice A1 (numsL (l.drop (i + 2))).length c1)).setCell ⟨w.heap.size, 0, none⟩ (.int .i64 k)).setCell ⟨w.heap.size, 1, none⟩ (.string b)).heap[w.heap.size]? = some (.cells #[.int .i64 k, .string b] 29 (0, 0))) := ⟨fun k b => blk_put (cs := #[.int .i64 k, .string ⟨#[]⟩]) (blk_put (cs := #[.int .i64 0, .string ⟨#[]⟩]) (blk_far HNK.out (p := ⟨p, 0, none⟩) hpn _) 0 _ rfl) 1 _ rfl⟩
    have HFIN : Aside0 (∀ (k : Int) (b : ByteArray), lineOf most (l.take i) = (k, b) → ∃ v', Ending.returned (.tuple #[.agg #[.int .i64 k, .string b], .bool true]) = Ending.returned (.tuple #[.agg #[.int .i64 (nextL most l).1.1, .string (nextL most l).1.2.1], .bool (nextL most l).1.2.2]) ∧ Rdr (((w1.setCell ⟨p, 0, none⟩ (.slice A1 (numsL (l.drop (i + 2))).length c1)).setCell ⟨w.heap.size, 0, none⟩ (.int .i64 k)).setCell ⟨w.heap.size, 1, none⟩ (.string b)) base p v' (nextL most l).2 ∧ Below base w (((w1.setCell ⟨p, 0, none⟩ (.slice A1 (numsL (l.drop (i + 2))).length c1)).setCell ⟨w.heap.size, 0, none⟩ (.int .i64 k)).setCell ⟨w.heap.size, 1, none⟩ (.string b)) ∧ Kept w (((w1.setCell ⟨p, 0, none⟩ (.slice A1 (numsL (l.drop (i + 2))).length c1)).setCell ⟨w.heap.size, 0, none⟩ (.int .i64 k)).setCell ⟨w.heap.size, 1, none⟩ (.string b)) (fun k => k = p) ∧ (∀ k, v'.ownBlock = some k → (Value.slice (some ad) l.length c).ownBlock = some k ∨ w.heap.size ≤ k)) := ⟨fun k b hkb => by
      rw [HN.out, hkb]
      have hRn := Kd.R_far (Kd.R_far (Kd.R_far HR2.out (p := ⟨p, 0, none⟩) (fun k hk e => by have e' : k = p := e; omega) (.slice A1 (numsL (l.drop (i + 2))).length c1)) (p := ⟨w.heap.size, 0, none⟩) (fun k hk e => by have e' : k = w.heap.size := e; omega) (.int .i64 k)) (p := ⟨w.heap.size, 1, none⟩) (fun k hk e => by have e' : k = w.heap.size := e; omega) (.string b)
      refine ⟨.slice A1 (numsL (l.drop (i + 2))).length c1, rfl, ⟨H.out.1, ?_, ?_⟩, ?_, ?_, ?_⟩
      · exact blk_far (blk_far (blk_put (cs := #[.slice (some ad) l.length c]) HBK.out 0 _ rfl) (p := ⟨w.heap.size, 0, none⟩) (Ne.symm hpn) _) (p := ⟨w.heap.size, 1, none⟩) (Ne.symm hpn) _
      · exact Kd.R_mono (Kd.R_lower hRn hbase) (fun k hk e => by subst e; omega)
      · exact (((HBW.out.mono hbase).setCell (p := ⟨p, 0, none⟩) H.out.1 _).setCell (p := ⟨w.heap.size, 0, none⟩) hbase _).setCell (p := ⟨w.heap.size, 1, none⟩) hbase _
      · exact (((Kept.of_below HBW.out (fun k => k = p)).setCell (p := ⟨p, 0, none⟩) (.inl rfl) _).setCell (p := ⟨w.heap.size, 0, none⟩) (.inr (Nat.le_refl _)) _).setCell (p := ⟨w.heap.size, 1, none⟩) (.inr (Nat.le_refl _)) _
      · exact fun k hk => .inr (by have := HR2.out.1 k hk; omega)⟩
    have hst := HSTR.out w1 (.slice A1 (numsL (l.drop (i + 2))).length c1) HBW.out
    go_wp2_with (go_at_call 16; (first | refine (HBYTE.out w1 0 _ HBW.out).mono ?_ | refine (HBYTE.out w1 13 _ HBW.out).mono ?_ | refine (HBYTE.out w1 10 _ HBW.out).mono ?_); rintro e w' ⟨rfl, rfl⟩)
    all_goals first
      | (refine bodyPost_ret (results_ct rfl _ _ w.heap.size 29 #[.int .i64 2, .string (⟨#[]⟩ : ByteArray)] (0, 0) _ rfl (HROW.out 2 ⟨#[]⟩) rfl rfl rfl) rfl ?_
         obtain ⟨v', h1, h2⟩ := HFIN.out 2 ⟨#[]⟩ (lineOf_long (by rw [HTL.out]; omega))
         first | exact ⟨v', h1, h2⟩ | exact ⟨h1, v', h2⟩)
      | (refine bodyPost_ret (results_ct rfl _ _ w.heap.size 29 #[.int .i64 3, .string (⟨#[]⟩ : ByteArray)] (0, 0) _ rfl (HROW.out 3 ⟨#[]⟩) rfl rfl rfl) rfl ?_
         obtain ⟨v', h1, h2⟩ := HFIN.out 3 ⟨#[]⟩ (lineOf_odd (by rw [HTL.out]; omega) (by first | omega | (simp only [Bool.or_eq_true, decide_eq_true_eq, Bool.not_eq_true, Bool.or_eq_false_iff, decide_eq_false_iff_not] at *; omega)))
         first | exact ⟨v', h1, h2⟩ | exact ⟨h1, v', h2⟩)
      | (refine bodyPost_ret (results_ct rfl _ _ w.heap.size 29 #[.int .i64 1, .string (mkS (l.take i))] (0, 0) _ rfl (HROW.out 1 _) rfl rfl rfl) rfl ?_
         obtain ⟨v', h1, h2⟩ := HFIN.out 1 _ (lineOf_good (by rw [HTL.out]; omega) (by first | omega | (simp only [Bool.or_eq_true, decide_eq_true_eq, Bool.not_eq_true, Bool.or_eq_false_iff, decide_eq_false_iff_not] at *; omega)))
         first | exact ⟨v', h1, h2⟩ | exact ⟨h1, v', h2⟩)
  · have hcut : Lib.cutV A l.length c 2 (Lib.index l [13, 10]) = .tuple #[.slice A l.length c, .slice none 0 0, .bool false] := by
      unfold Lib.cutV
      rw [if_neg hi]
    have hn : nextL most l = ((0, ⟨#[]⟩, false), l) := by unfold nextL; rw [if_neg hi]
    have HN := Aside0.mk hn
    clear hi hi1 hn
    rw [hcut] at HCUT
    go_enter Try.func10, Try.ntmps10
    go_wp2_with (go_at_call 14; refine (HCUT.out _).mono ?_; rintro e w' ⟨rfl, q, rfl⟩)
    refine bodyPost_ret (results_ct rfl _ _ w.heap.size 29 #[.int .i64 0, .string (⟨#[]⟩ : ByteArray)] (0, 0) _ rfl (by refine blk_put (cs := #[.int .i64 0, .string (⟨#[]⟩ : ByteArray)]) ?_ 1 _ rfl; refine blk_put (cs := #[.int .i64 0, .string (⟨#[]⟩ : ByteArray)]) ?_ 0 _ rfl; refine blk_drewN ?_ _; refine blk_alloc ?_ _; exact blk_new _ _) rfl rfl rfl) rfl ?_
    rw [HN.out]
    have hB : Below w.heap.size w (((((w.alloc (Obj.cells #[Value.int IntKind.i64 0, Value.string { data := #[] }] 29)).alloc (Obj.cells #[Value.int IntKind.u8 13, Value.int IntKind.u8 10] 5 (2, 3))).drewN q).setCell { block := w.heap.size, off := 0 } (Value.int IntKind.i64 0)).setCell { block := w.heap.size, off := 1 } (Value.string { data := #[] })) :=
      below_set (below_set (pw_below_drewN (below_alloc (below_alloc (Below.refl _ _) _) _) _) (Nat.le_refl _)) (Nat.le_refl _)
    exact ⟨_, rfl, ⟨H.out.1, blk_below H.out.2.1 hB, Kd.R_below H.out.2.2 hB⟩, hB.mono hbase, Kept.of_below hB _, fun _ hk => .inl hk⟩
end Go.Proofs.Ytgpchkkdpljonaa.Hand
