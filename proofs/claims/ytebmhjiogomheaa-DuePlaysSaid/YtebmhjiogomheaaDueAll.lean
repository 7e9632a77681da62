/- Due.All: its entries, sorted; their ids. -/
import Derived.Test.YtebmhjiogomheaaDuePlain
import Derived.Test.YtebmhjiogomheaaDueIter
namespace Go.Proofs.Ytebmhjiogomheaa.Hand
open Go.RowKit Go.Shelf Go.Proofs.YtebmhjiogomheaaW.PrintWords Go.Proofs.YtebmhjiogomheaaW.PrintLast Go.Proofs.YtebmhjiogomheaaW.PrintMore
set_option linter.unusedVariables false
set_option linter.unusedSimpArgs false
/-! ## slices.SortFunc at no entry -/
set_option maxHeartbeats 4000000 in
set_option maxRecDepth 100000 in
theorem insertion_none (p : Option Addr) (c : Nat) (fv : Value) (w : World) : Calls Try.prog 37 #[.slice p 0 c, .int .i64 0, .int .i64 0, fv] w fun e w' => e = .returned (.tuple #[]) ∧ w' = w := by
  go_enter Try.func37, Try.ntmps37
  go_wp2
  refine wp_loop_rounds 1 ?_
  rw [rounds_succ]
  go_wp2
  go_end0
  exact ⟨rfl, rfl⟩
set_option maxHeartbeats 4000000 in
set_option maxRecDepth 100000 in
theorem pdq_none (p : Option Addr) (c : Nat) (lim : Int) (fv : Value) (w : World) : Calls Try.prog 34 #[.slice p 0 c, .int .i64 0, .int .i64 0, .int .i64 lim, fv] w fun e w' => e = .returned (.tuple #[]) ∧ w' = w := by
  have HI := Aside0.mk (insertion_none p c fv)
  go_enter Try.func34, Try.ntmps34
  go_wp2
  refine wp_loop_rounds 1 ?_
  rw [rounds_succ]
  go_wp2_with fail
  refine (HI.out _).mono ?_
  rintro e w' ⟨rfl, rfl⟩
  go_wp2
  (try simp only [Exit.inBlock, Exit.then]); refine bodyPost_ret (results_none rfl _ _ _) rfl ?_
  exact ⟨rfl, rfl⟩
theorem bits_none (w : World) : Calls Try.prog 35 #[.int .u64 0] w fun e w' => e = .returned (.int .i64 (Lib.bitLen 0 : Nat)) ∧ w' = w := by
  have h := Any.bits_Len (SlLaysF0.n15.bits (P := Try.prog) (ρ := Try.sortE_ren) { Try.sortE with }) 0 w (by omega) (by omega)
  exact h
set_option maxHeartbeats 4000000 in
set_option maxRecDepth 100000 in
theorem sort_none (p : Option Addr) (c : Nat) (fv : Value) (w : World) : Calls Try.prog 29 #[.slice p 0 c, fv] w fun e w' => e = .returned (.tuple #[]) ∧ w' = w := by
  have HB := Aside0.mk bits_none
  have HP := Aside0.mk (fun lim => pdq_none p c lim fv)
  go_enter Try.func29, Try.ntmps29
  go_wp2_with fail
  refine (HB.out _).mono ?_
  rintro e w' ⟨rfl, rfl⟩
  go_wp2_with fail
  refine (HP.out _ _).mono ?_
  rintro e w' ⟨rfl, rfl⟩
  go_wp2
  go_end0
  exact ⟨rfl, rfl⟩
/-! ## .. at some -/
abbrev encE (x : En) : List Value := [.int .i64 x.1, .int .i64 x.2]
theorem cmpLaysE (blk off size : Nat) (w : World) : CmpLays Try.prog 23 #[] encE 2 cmpE blk off size w := fun _ _ _ _ x y =>
  (compare_grow x y _).mono fun _ _ ⟨h, q, os, hw⟩ => ⟨h, q, os, hw⟩
/-- The entries in their order. -/
def sortE (p : List En) : List En := p.mergeSort fun x y => !ltE y x
theorem sortE_perm (p : List En) : (sortE p).Perm p := List.mergeSort_perm _ _
theorem sortE_len (p : List En) : (sortE p).length = p.length := (sortE_perm p).length_eq
theorem sortE_sorted (p : List En) : (sortE p).Pairwise fun x y => ltE y x = false := by
  have := List.pairwise_mergeSort (le := fun x y => !ltE y x) (fun x y z h k => by
    simp only [Bool.not_eq_true'] at *
    exact ltE_ntrans k h) (fun x y => by
    simp only [Bool.or_eq_true, Bool.not_eq_true']
    cases h : ltE y x
    · exact .inl rfl
    · exact .inr (ltE_asymm h)) p
  exact this.imp fun h => by simpa using h
theorem ltOfE (x y : En) : ltOf cmpE x y = ltE x y := cmpE_lt x y
theorem flatE_len (zs : List En) : (flatE zs).length = zs.length * 2 := by
  unfold flatE
  induction zs with
  | nil => rfl
  | cons x zs ih => rw [List.flatMap_cons, List.length_append, ih, List.length_cons]; simp; omega
theorem flatE_get (zs : List En) : ∀ t, t < zs.length * 2 → (flatE zs)[t]? = some (encE (zs.getD (t / 2) (0, 0)))[t % 2]! := by
  induction zs with
  | nil => intro t h; simp at h
  | cons x zs ih =>
    intro t h
    unfold flatE
    rw [List.flatMap_cons]
    match t with
    | 0 => rfl
    | 1 => rfl
    | t + 2 =>
      have e1 : (t + 2) / 2 = t / 2 + 1 := by omega
      have e2 : (t + 2) % 2 = t % 2 := by omega
      rw [e1, e2]
      have := ih t (by simp at h; omega)
      unfold flatE at this
      simp only [List.cons_append, List.nil_append, List.getElem?_cons_succ, this, List.getD_cons_succ]
/-- What a slice owns, as the sort reads it. -/
theorem holdsE {w : World} {base g n c : Nat} {zs : List En} (h : w.ownsRow base 55 2 (.slice (some ⟨g, 0, none⟩) n c) zs.length (flatE zs)) : Sort.HoldsK encE 2 w g 0 zs.toArray ∧ g < w.heap.size ∧ base ≤ g ∧ n = zs.length := by
  rcases h.2 with ⟨h0, _⟩ | ⟨g', cap, cur, hv, hb, hg, hn, hc, hs, ht⟩
  · cases h0
  · injection hv with hv h1 h2
    injection hv with hv
    injection hv with hv
    subst hv
    refine ⟨fun t ht' => ?_, (Array.getElem?_eq_some_iff.1 hg).1, hb, h1⟩
    have htl : t < zs.length * 2 := by simpa using ht'
    have e := flatE_get zs t htl
    rw [← ht, List.getElem?_take_of_lt htl, Array.getElem?_toList] at e
    refine ⟨?_, blk_frozen hg _⟩
    rw [Nat.zero_add, Sort.get_flatK _ _ _ _ (by simpa using htl)]
    refine (blk_cell hg t).trans ?_
    rw [e]
    simp only [List.getD_eq_getElem?_getD, List.getElem!_toArray, List.getElem!_eq_getElem?_getD]
    rfl
theorem below_sorted {B : Nat} {w : World} {g m : Nat} {d : Array En} {os : Array Obj} (hg : B ≤ g) (hB : B ≤ w.heap.size) : Below B w (sortWorldK encE 2 w g 0 m d os) := by
  have h1 : Below B w (Sort.putRowK encE 2 (Sort.ahead w m) g 0 d) := ⟨rfl, rfl, rfl, by simp [Sort.putRowK, Sort.putRow, Sort.mapBlock, Sort.ahead], fun k hk => by simp [Sort.putRowK, Sort.putRow, Sort.mapBlock, Sort.ahead, Array.getElem?_modify, show g ≠ k by omega]⟩
  exact ⟨h1.os, h1.tape, h1.output, by
    have := h1.size
    unfold sortWorldK Sort.grow
    simp only [Array.size_append]
    omega, fun k hk => by
    rw [← h1.block k hk]
    unfold sortWorldK Sort.grow
    exact Array.getElem?_append_left (by have := h1.size; omega)⟩
theorem enT : ∀ (x : En), ∀ v ∈ encE x, v.oneCell' = true := fun x v hv => by
  simp only [encE, List.mem_cons, List.not_mem_nil, or_false] at hv
  rcases hv with rfl | rfl <;> rfl
set_option maxHeartbeats 4000000 in
theorem sort_some (base g c : Nat) (zs : List En) (w : World) (h : w.ownsRow base 55 2 (.slice (some ⟨g, 0, none⟩) zs.length c) zs.length (flatE zs)) (hb : base ≤ w.heap.size) (hl : zs.length ≤ 1000000) :
    Calls Try.prog 29 #[.slice (some ⟨g, 0, none⟩) zs.length c, .func (.func 23) #[] #[]] w fun e w' => e = .returned (.tuple #[]) ∧ Ens w'.heap.size w' (some ⟨g, 0, none⟩) (sortE zs) ∧ Below base w w' := by
  obtain ⟨hH, hg, hbg, _⟩ := holdsE h
  have eg : ∀ args w, (callFunc 23 args).run Try.prog w = .ok (.enter 23 args) w := enters_of Try.func23 (by kernel_rfl) rfl
  have hs := AnyQ.slices_SortFunc Try.sortE 2 Try.isAgg55 Try.sizeOf55 encE (fun _ => rfl) enT cmpE swoE 23 #[] g 0 c zs.toArray w eg (cmpLaysE g 0 _ w) hH hg (by simp; omega)
  have e0 : zs.toArray.size = zs.length := by simp
  rw [e0] at hs
  change Calls Try.prog 29 _ _ _ at hs
  refine hs.mono ?_
  rintro e w' ⟨he, d', n, os, hp, ho, rfl⟩
  have hd : d' = (sortE zs).toArray := by
    have := Sort.sorted_unique_holds swoE (fun x y h k => ltE_eq (by rw [← ltOfE]; exact h) (by rw [← ltOfE]; exact k)) zs.toArray d' (by rw [e0]; exact hp) (by rw [e0]; exact ho)
    have e1 : (fun x y : En => !ltOf cmpE y x) = fun x y => !ltE y x := by
      funext x y
      rw [ltOfE]
    rw [e1] at this
    have e2 : d' = d'.toList.toArray := by simp
    rw [e2, this]
    rfl
  refine ⟨he, ?_, below_sorted hbg hb⟩
  have hs2 : d'.size = zs.length := hp.1.trans e0
  have hH2 : Sort.HoldsK encE 2 (sortWorldK encE 2 w g 0 n d' os) g 0 d' := by
    unfold sortWorldK
    have h1 := Sort.holdsK_putRowK encE 2 (Sort.ahead w n) g 0 zs.toArray d' (Sort.holdsK_ahead encE 2 w n g 0 zs.toArray hH) (by rw [hs2, e0])
    exact Sort.holdsK_grow encE 2 _ os g 0 d' (by simpa [Sort.putRowK, Sort.putRow, Sort.mapBlock, Sort.ahead] using hg) h1
  intro i hi
  have hi' : i < d'.size := by rw [hs2, ← sortE_len zs]; exact hi
  have ex : d'[i]! = (sortE zs)[i] := by rw [hd]; simp [hi]
  have c0 := (hH2.cell hi' (show 0 < 2 by decide)).1
  have c1 := (hH2.cell hi' (show 1 < 2 by decide)).1
  rw [ex] at c0 c1
  simp only [Nat.zero_add, Nat.add_zero] at c0 c1
  refine ⟨_, rfl, ?_, ?_, ?_⟩
  · rw [add_plain]
    have := (below_sorted (m := n) (d := d') (os := os) hbg hb).size
    show g < _
    exact World.block_lt_of_cell? _ _ c0
  · rw [add_plain]
    exact c0
  · rw [add_plain]
    exact c1
theorem sort_any (base : Nat) (v : Value) (zs : List En) (w : World) (h : w.ownsRow base 55 2 v zs.length (flatE zs)) (hb : base ≤ w.heap.size) (hl : zs.length ≤ 1000000) :
    ∃ A c, v = .slice A zs.length c ∧ Calls Try.prog 29 #[v, .func (.func 23) #[] #[]] w fun e w' => e = .returned (.tuple #[]) ∧ Ens w'.heap.size w' A (sortE zs) ∧ Below base w w' := by
  rcases h.2 with ⟨rfl, h0⟩ | ⟨g, cap, cur, rfl, _⟩
  · refine ⟨none, 0, by rw [h0], (sort_none none 0 _ w).mono ?_⟩
    rintro e w' ⟨he, rfl⟩
    exact ⟨he, fun i hi => by rw [sortE_len, h0] at hi; omega, Below.refl _ _⟩
  · exact ⟨_, _, rfl, sort_some base g cap zs w h hb hl⟩
def Srtd (w : World) (zs : List En) (e : Ending) (w' : World) : Prop := ∃ A c, e = .returned (.slice A zs.length c) ∧ Ens w'.heap.size w' A (sortE zs) ∧ Below w.heap.size w w'
set_option maxHeartbeats 4000000 in
set_option maxRecDepth 100000 in
theorem sorted_calls (Bs c : Nat) (A : Option Addr) (zs : List En) (hl : zs.length ≤ 1000000) (w : World) (hBs : Bs < w.heap.size) (hc : w.cell? ⟨Bs, 0, none⟩ = some (.slice A zs.length c)) (hE : Ens w.heap.size w A zs) :
    Calls Try.prog 21 #[.func (.func 30) #[] #[.pointer (some ⟨Bs, 0, none⟩)], .func (.func 23) #[] #[]] w (Srtd w zs) := by
  have HC := Aside0.mk (collect_calls Bs c A zs hl w hBs hc hE)
  clear hc hE
  go_enter Try.func21, Try.ntmps21
  go_wp2_with fail
  refine HC.out.mono ?_
  rintro e w1 ⟨v, rfl, hr, hb⟩
  obtain ⟨A2, c2, rfl, hs⟩ := sort_any w.heap.size v zs w1 hr hb.size hl
  have HS := Aside0.mk hs
  have HB := Aside0.mk hb
  clear hr hb hs HC
  go_wp2_with fail
  refine HS.out.mono ?_
  rintro e w2 ⟨rfl, hE2, hb2⟩
  have HE2 := Aside0.mk hE2
  have HB2 := Aside0.mk (HB.out.trans hb2)
  clear hE2 hb2 HS
  go_wp2
  go_ret
  exact ⟨A2, c2, rfl, HE2.out, HB2.out⟩
theorem infoInt : (Try.prog.info? 3).map (fun i => (i.zero, i.size, i.bytes)) = some (some (.int .i64 0), 1, 8) := by kernel_rfl
/-- What All hands back. -/
def AllPost (w : World) (p : List En) (e : Ending) (w' : World) : Prop := ∃ v, e = .returned v ∧ w'.ownsRow w.heap.size 3 1 v ((sortE p).map Prod.fst).length (nums .i64 ((sortE p).map Prod.fst)) ∧ Below w.heap.size w w'
set_option maxHeartbeats 8000000 in
set_option maxRecDepth 100000 in
theorem all_calls (w : World) (F : Nat → Prop) (q : Nat) (p : List En) (h : Pl w F q p) (hl : p.length ≤ 100000) :
    Calls Try.prog 17 #[.pointer (some ⟨q, 0, none⟩)] w (AllPost w p) := by
  obtain ⟨A, c, hz, _, hR⟩ := h.cell
  have HE := Aside0.mk (Ens.of (Kd.R_reads' hR).2.2)
  have HV := Aside0.mk (fun w => values_calls A p.length c w)
  clear hR h
  go_enter Try.func17, Try.ntmps17
  go_wp2_with fail
  refine (HV.out _).mono ?_
  rintro e w1 ⟨rfl, hw1⟩
  have hb1 : Below w.heap.size w w1 := by rw [hw1]; exact below_alloc (Below.refl _ _) _
  have hs1 : w1.heap.size = w.heap.size + 1 := by rw [hw1]; simp
  have HS := Aside0.mk (sorted_calls w.heap.size c A p (by omega) w1 (by omega) (by rw [hw1]; simp) (fun i hi => by
    obtain ⟨ad, e1, e2, e3, e4⟩ := (HE.out.below hb1) i hi
    exact ⟨ad, e1, by omega, e3, e4⟩))
  have HB1 := Aside0.mk hb1
  clear hw1 hb1 hs1 HV hz
  go_wp2_with fail
  refine HS.out.mono ?_
  rintro e w2 ⟨A2, c2, rfl, hE2, hb2⟩
  have HE2 := Aside0.mk hE2
  have HB2 := Aside0.mk (HB1.out.trans (hb2.mono HB1.out.size))
  clear hE2 hb2 HS
  obtain ⟨l, hl2⟩ : ∃ l, l = sortE p := ⟨_, rfl⟩
  have hll : l.length = p.length := by rw [hl2, sortE_len]
  have HL := Aside0.mk hl2
  rw [← hl2] at HE2
  clear hl2
  go_wp2
  go_loopw [4, 17] (fun v4 v17 wr => ∃ i : Nat, v17 = .int .i64 i ∧ i ≤ p.length ∧ Aside0 (wr.ownsRow w2.heap.size 3 1 v4 ((l.take i).map Prod.fst).length (nums .i64 ((l.take i).map Prod.fst)) ∧ Below w2.heap.size w2 wr)) (fun _ v17 _ => p.length - (intOf v17).toNat)
  case atStart => exact ⟨0, rfl, Nat.zero_le _, own_nil _ _ _ _, Below.refl _ _⟩
  case round =>
    obtain ⟨i, rfl, hi, HI⟩ := hrel
    by_cases hlt : i < p.length
    · obtain ⟨ad, rfl, hadb, hx0, hx1⟩ := (HE2.out.below HI.out.2) i (by omega)
      obtain ⟨x, hx⟩ : ∃ x, x = l[i] := ⟨_, rfl⟩
      rw [← hx] at hx0 hx1
      have HX := Aside0.mk (show (l.take i).map Prod.fst ++ [x.1] = (l.take (i + 1)).map Prod.fst from by rw [hx, List.take_succ_eq_append_getElem (by omega), List.map_append]; rfl)
      have hlen : ((l.take i).map Prod.fst).length ≤ 100000 := by rw [List.length_map, List.length_take]; omega
      have HO0 := HI.out.1
      obtain ⟨xs, hxs⟩ : ∃ xs, xs = (l.take i).map Prod.fst := ⟨_, rfl⟩
      rw [← hxs] at HX hlen HO0
      have HLEN := Aside0.mk hlen
      have HBr := Aside0.mk (HI.out.2.alloc HI.out.2.size (.cells #[.int .i64 x.1, .int .i64 x.2] 55))
      clear HI
      obtain ⟨A4, c4, rfl⟩ := own_slice HO0
      have HO := Aside0.mk (HO0.alloc (.cells #[.int .i64 x.1, .int .i64 x.2] 55))
      clear hx hlen hxs HO0
      obtain ⟨n4, hn4⟩ : ∃ n, n = xs.length := ⟨_, rfl⟩
      rw [show Value.slice A4 xs.length c4 = .slice A4 n4 c4 from by rw [hn4]] at HO
      rw [← hn4]
      clear hn4
      go_wp2_with ((with_reducible refine gate_builtin (b := .append) (xs := #[.tmp 21, .tmp 24]) rfl ?_); at_builtin; refine print_append_num (w0 := w2) w2.heap.size rfl (.tmp 21) (.tmp 24) 27 3 .i64 8 rfl Try.underlying27 infoInt (by decide) (.slice A4 n4 c4) xs x.1 rfl (congrArg (fun z => Value.slice (some ⟨z, 0, none⟩) 1 1) (Array.size_push _).symm) HO.out HBr.out HBr.out.size (by have := HLEN.out; omega) ?_; intro v1 w3 ho hb hg hat; obtain ⟨A5, c5, rfl⟩ := own_slice ho; have HO5 := Aside0.mk ho; have HB5 := Aside0.mk hb; clear ho hb hg hat)
      go_roundw
      case rel => exact ⟨i + 1, by go_num, hlt, by rw [← HX.out]; have := HO5.out; rw [show (Value.slice A5 (xs ++ [x.1]).length c5) = .slice A5 (xs.length + 1) c5 from by rw [List.length_append]; rfl] at this; exact this, HB5.out⟩
      case measure => simp [intOf]; omega
    · obtain rfl : i = p.length := by omega
      have HT := Aside0.mk (show l.take p.length = l from by rw [← hll, List.take_length])
      go_wp2
      go_ret
      refine ⟨_, rfl, ?_, HB2.out.trans (HI.out.2.mono HB2.out.size)⟩
      have := HI.out.1
      rw [HT.out] at this
      rw [← HL.out]
      have h2 := HB2.out.size
      exact ⟨this.1, this.2.imp_right fun ⟨g, cap, cur, e1, e2, e3⟩ => ⟨g, cap, cur, e1, Nat.le_trans h2 e2, e3⟩⟩
end Go.Proofs.Ytebmhjiogomheaa.Hand
