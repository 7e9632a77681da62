/- slices.Values over the pile, slices.Collect: what comes is the pile. -/
import Derived.Test.YtebmhjiogomheaaDueOps
import Derived.RangeFuncNested
import Derived.RangeFuncBound
import Derived.RangeFuncCalls
import Derived.RangeFuncLeaves
import Derived.Shelf.Abstract
import Derived.Shelf.RegionOpen
import Derived.OwnWalkIn
import Derived.TacticsInMore
import Derived.LoopNIn
import Derived.LoopIn
import Derived.Maps.AppendAt
namespace Go.Proofs.Ytebmhjiogomheaa.Hand
open Go.RowKit Go.Shelf Go.Proofs.YtebmhjiogomheaaW.PrintWords Go.Proofs.YtebmhjiogomheaaW.PrintLast Go.Proofs.YtebmhjiogomheaaW.PrintMore
set_option linter.unusedVariables false
set_option linter.unusedSimpArgs false
attribute [local go_sem] Oper.semAt_some
set_option maxHeartbeats 4000000 in
set_option maxRecDepth 100000 in
theorem values_calls (A : Option Addr) (n c : Nat) (w : World) :
    Calls Try.prog 22 #[.slice A n c] w fun e w' => e = .returned (.func (.func 30) #[] #[.pointer (some ⟨w.heap.size, 0, none⟩)]) ∧ w' = w.alloc (.cells #[.slice A n c] 47) := by
  go_enter Try.func22, Try.ntmps22
  go_wp2
  go_ret
  exact ⟨rfl, rfl⟩
/-- The entries zs lie from A on, in a block below n0. -/
def Ens (n0 : Nat) (W : World) (A : Option Addr) (zs : List En) : Prop :=
  ∀ i (hi : i < zs.length), ∃ ad, A = some ad ∧ (ad.add (i * 2)).block < n0 ∧ W.cell? (ad.add (i * 2)) = some (.int .i64 zs[i].1) ∧ W.cell? ⟨(ad.add (i * 2)).block, (ad.add (i * 2)).off + 1, none⟩ = some (.int .i64 zs[i].2)
theorem Ens.below {n0 : Nat} {W W' : World} {A : Option Addr} {zs : List En} (h : Ens n0 W A zs) (hb : Below n0 W W') : Ens n0 W' A zs := fun i hi => by
  obtain ⟨ad, h1, h2, h3, h4⟩ := h i hi
  exact ⟨ad, h1, h2, (hb.cell h2).trans h3, (hb.cell (p := ⟨(ad.add (i * 2)).block, (ad.add (i * 2)).off + 1, none⟩) h2).trans h4⟩
theorem Ens.of {w : World} {A : Option Addr} {n : Nat} {p : List En} (h : kE.C w A n p) : Ens w.heap.size w A p := fun i hi => by
  obtain ⟨ad, h1, h2, h3⟩ := rec_at h i hi
  exact ⟨ad, h1, World.block_lt_of_cell? w (ad.add (i * 2)) h2, h2, h3⟩
set_option maxHeartbeats 8000000 in
set_option maxRecDepth 100000 in
theorem values1_in (F : Fence) (n : Nat) (hf : F.fn 30) (hro : F.round = none) (hn : 1 ≤ n) (l Bs n0 c : Nat) (A : Option Addr) (zs : List En) (hl : zs.length ≤ 1000000) (J Jx : List En → World → Prop)
    (hY : ∀ pre x W, J pre W → pre.length < zs.length → YieldAt F (n - 1) Try.prog l #[.agg #[.int .i64 x.1, .int .i64 x.2]] W fun e W' =>
      (e = .returned (.bool true) ∧ J (pre ++ [x]) W' ∧ Below n0 W W') ∨ (e = .returned (.bool false) ∧ Jx (pre ++ [x]) W'))
    (W : World) (hJ : AbidesFrom W.heap.size J) (hn0 : n0 ≤ W.heap.size) (hBs : W.cell? ⟨Bs, 0, none⟩ = some (.slice A zs.length c)) (hE : Ens n0 W A zs) (h0 : J [] W) :
    CallsIn F n Try.prog 30 #[.func (.yield l) #[] #[], .pointer (some ⟨Bs, 0, none⟩)] W fun e W' => (∃ v, e = .returned v) ∧
      ((∃ ys, ys = zs ∧ J ys W') ∨ (∃ pre, pre <+: zs ∧ Jx pre W')) := by
  have HE := Aside0.mk hE
  have HJ := Aside0.mk hJ
  have H0 := Aside0.mk h0
  clear hE hJ h0
  refine callsIn_of_wp Try.func30 rfl hf ?_ hro
  simp only [Try.ntmps30, List.size_toArray, List.length_cons, List.length_nil, Nat.reduceAdd, Nat.reduceSub, Array.replicate_succ, Array.replicate_zero, List.push_toArray, List.append_toArray, List.nil_append, List.cons_append]
  gi_wp2
  gi_loopw [7] (fun i wr => ∃ k : Nat, k ≤ zs.length ∧ i = .int .i64 k ∧ Aside0 (J (zs.take k) wr ∧ Below n0 W wr))
    (fun i _ => zs.length - (intOf i).toNat)
  case atStart => exact ⟨0, Nat.zero_le _, rfl, by rw [List.take_zero]; exact H0.out, Below.refl _ _⟩
  case round =>
    obtain ⟨k, hk, rfl, HR⟩ := hrel
    by_cases hlt : k < zs.length
    · obtain ⟨ad, rfl, hadb, hx0, hx1⟩ := HE.out.below HR.out.2 k hlt
      have HTK := Aside0.mk (List.take_succ_eq_append_getElem hlt)
      obtain ⟨x, hx⟩ : ∃ x, x = zs[k] := ⟨_, rfl⟩
      rw [← hx] at hx0 hx1 HTK
      clear hx
      have HN := Aside0.mk (show n0 ≤ wr.heap.size from Nat.le_trans hn0 HR.out.2.size)
      have hJa : J (zs.take k) (wr.alloc (.cells #[.int .i64 x.1, .int .i64 x.2] 55)) := HJ.out _ _ _ none HR.out.1 (World.grownBy_alloc _ _ _) (fun r e => by cases e)
      obtain ⟨fn, tmps, assign, body, hy, hR⟩ := hY _ x _ hJa (by rw [List.length_take]; omega)
      have HRR := Aside0.mk hR
      clear hR hJa
      gi_wp2
      refine HRR.out.mono ?_
      rintro e W3 (⟨rfl, hJ3, hk3⟩ | ⟨rfl, hJx3⟩)
      · have HJ3 := Aside0.mk hJ3
        have HK3 := Aside0.mk (HR.out.2.trans (((Below.refl n0 wr).alloc HN.out (.cells #[.int .i64 x.1, .int .i64 x.2] 55)).trans hk3))
        clear hJ3 hk3
        gi_wp2
        go_roundw
        case rel => exact ⟨k + 1, hlt, by go_num, by rw [HTK.out]; exact HJ3.out, HK3.out⟩
        case measure => simp [intOf]; omega
      · have HJ3 := Aside0.mk hJx3
        clear hJx3
        gi_wp2
        refine bodyPost_ret (results_none rfl _ _ _) rfl ?_
        exact ⟨⟨_, rfl⟩, .inr ⟨_, ⟨_, HTK.out ▸ List.take_append_drop _ _⟩, HJ3.out⟩⟩
    · obtain rfl : k = zs.length := by omega
      gi_wp2
      go_end0
      exact ⟨⟨_, rfl⟩, .inl ⟨_, rfl, by have := HR.out.1; rwa [List.take_length] at this⟩⟩
theorem values_stops (F : Fence) (n : Nat) (hf : F.fn 30) (hro : F.round = none) (hn : 1 ≤ n) (Bs n0 c : Nat) (A : Option Addr) (zs : List En) (hl : zs.length ≤ 1000000) (w : World) (hBs : Bs < w.heap.size) (hn0 : n0 ≤ w.heap.size)
    (hc : w.cell? ⟨Bs, 0, none⟩ = some (.slice A zs.length c)) (hE : Ens n0 w A zs) :
    SeqStopsK F n Try.prog 30 #[.pointer (some ⟨Bs, 0, none⟩)] (fun x : En => #[Value.agg #[.int .i64 x.1, .int .i64 x.2]]) (Below n0) (fun ys => ys = zs) (fun pre => pre <+: zs) zs.length w := fun l J Jx W hW hJ _ hY h0 =>
  values1_in F n hf hro hn l Bs n0 c A zs hl J Jx hY W hJ (Nat.le_trans hn0 hW.size) ((hW.cell (p := ⟨Bs, 0, none⟩) hBs).trans hc) (hE.below (hW.mono hn0)) h0
/-- The cells of entries. -/
def flatE (zs : List En) : List Value := zs.flatMap fun x => [.int .i64 x.1, .int .i64 x.2]
theorem flatE_snoc (zs : List En) (x : En) : flatE (zs ++ [x]) = flatE zs ++ [.int .i64 x.1, .int .i64 x.2] := by simp [flatE]
theorem Boxed2.keep {W W' : World} {B t : Nat} {u v : Value} {row : Option Nat} (h : W.heap[B]? = some (.cells #[u, v] t (0, 0))) (hg : W.grownBy W' row) (hr : ∀ r, row = some r → ∃ o : Obj, W.heap[r]? = some o ∧ o.isCells = false) : W'.heap[B]? = some (.cells #[u, v] t (0, 0)) :=
  (hg.block B (Array.getElem?_eq_some_iff.1 h).1 (fun e => by obtain ⟨o, ho, hc⟩ := hr B e.symm; rw [h] at ho; cases ho; cases hc)).trans h
theorem infoE2 : (Try.prog.info? 55).map (fun i => (i.zero, i.size, i.bytes)) = some (some (.agg #[.int .i64 0, .int .i64 0]), 2, 16) := by kernel_rfl
theorem cell_two_new (w : World) (x y : Value) (t : TypeId) : ∀ j u, [x, y][j]? = some u → (w.alloc (.cells #[x, y] t)).cell? ((⟨w.heap.size, 0, none⟩ : Addr).add j) = some u := by
  intro j u hj
  match j, hj with
  | 0, hj => simp at hj; subst hj; simp [Addr.add]
  | 1, hj => simp at hj; subst hj; simp [Addr.add]
set_option maxHeartbeats 8000000 in
set_option maxRecDepth 100000 in
theorem appendSeq_in (F : Fence) (n : Nat) (hf : F.fn 33) (hg : F.fn 30) (hro : F.round = none) (hn : 3 ≤ n) (Bs c : Nat) (A : Option Addr) (zs : List En) (hl : zs.length ≤ 1000000) (w : World) (hBs : Bs < w.heap.size)
    (hc : w.cell? ⟨Bs, 0, none⟩ = some (.slice A zs.length c)) (hE : Ens w.heap.size w A zs) :
    CallsIn F n Try.prog 33 #[.slice none 0 0, .func (.func 30) #[] #[.pointer (some ⟨Bs, 0, none⟩)]] w fun e W' => ∃ v, e = .returned v ∧ W'.ownsRow w.heap.size 55 2 v zs.length (flatE zs) ∧ Below w.heap.size w W' := by
  have h1 : 1 ≤ n := by omega
  obtain ⟨i0, hi, hz0, hz1, hz2⟩ := info_parts infoE2
  refine callsIn_of_wp_marks Try.func33 rfl hf ?_ hro
  simp only [Try.ntmps33, List.size_toArray, List.length_cons, List.length_nil, Nat.reduceAdd, Nat.reduceSub, Array.replicate_succ, Array.replicate_zero, List.push_toArray, List.append_toArray, List.nil_append, List.cons_append]
  gi_wp2
  have bO := Boxed.new w 46 (.slice none 0 0)
  have hB0 : Below w.heap.size w (w.alloc (.cells #[.slice none 0 0] 46)) := (Below.refl _ w).alloc (Nat.le_refl _) _
  have hs0 : (w.alloc (.cells #[.slice none 0 0] 46)).heap.size = w.heap.size + 1 := by simp
  have hst := values_stops F (n - 1) hg hro (by omega) Bs w.heap.size c A zs hl (w.alloc (.cells #[.slice none 0 0] 46)) (by rw [hs0]; omega) (by rw [hs0]; omega) ((hB0.cell (p := ⟨Bs, 0, none⟩) hBs).trans hc) (hE.below hB0)
  obtain ⟨W0, hW0⟩ : ∃ W0, w.alloc (.cells #[.slice none 0 0] 46) = W0 := ⟨_, rfl⟩
  rw [hW0] at bO hB0 hs0 hst ⊢
  clear hW0 hc hE
  refine wpIn_rangeFunc_ownH hro h1 (gf := 30) (lb := #[.pointer (some ⟨Bs, 0, none⟩)]) rfl hg (enters_of Try.func30 (by kernel_rfl) rfl)
    hst belowK_t (belowK_b (by omega)) (Below.refl _ _) (fun _ => rfl)
    (fun pre W => (∃ v, Boxed W w.heap.size 46 v ∧ W.ownsRow w.heap.size 55 2 v pre.length (flatE pre) ∧ True) ∧ Below w.heap.size w W)
    (fun _ _ _ => False)
    (OwnFrom.and (Own.from (holdsRow_own w.heap.size w.heap.size 46 55 2 (fun pre : List En => pre.length) (fun pre => flatE pre) (fun _ _ => True)) _) (ownFrom_below (Nat.le_refl _) (by omega)))
    (fun _ _ _ _ _ hs _ _ => hs)
    ⟨⟨_, bO, World.ownsRow_nil _ _ _ _, trivial⟩, hB0⟩
    (fun x a' W => ∃ Bx, w.heap.size < Bx ∧ W.heap[Bx]? = some (.cells #[.int .i64 x.1, .int .i64 x.2] 55 (0, 0)) ∧ a' = { tmps := #[.slice none 0 0, .func (.func 30) #[] #[.pointer (some ⟨Bs, 0, none⟩)], .pointer (some ⟨w.heap.size, 0, none⟩), undef, .slice none 0 0, .pointer (some ⟨Bx, 0, none⟩), .func (.func 30) #[] #[.pointer (some ⟨Bs, 0, none⟩)], .agg #[.int .i64 x.1, .int .i64 x.2], undef, undef, undef, undef, undef], defers := [] })
    (fun x a' _ X Y row hs hg hr => by obtain ⟨Bx, h1, h2, h3⟩ := hs; exact ⟨Bx, h1, Boxed2.keep h2 hg (fun r e => (hr r e).2), h3⟩)
    ?assign ?body ?done ?stop
  case assign =>
    rintro l pre x W K ⟨⟨v, bS1, hR1, _⟩, hB1⟩ hK
    gi_wp2
    exact hK _ _ ((KeepsOthers.alloc _ _).from _) ((Below.refl _ W).alloc hB1.size _) ⟨⟨v, bS1.alloc _, hR1.alloc _, trivial⟩, hB1.alloc hB1.size _⟩ ⟨W.heap.size, bS1.lt, World.alloc_heap_new W _, rfl⟩
  case body =>
    rintro l pre x a' W hl0 ⟨r, hr⟩ ⟨⟨v, hv, hrow, _⟩, hB⟩ ⟨Bx, hBx, bX, rfl⟩ hlt
    have hc := hv.cell
    have hx0 : W.cell? ⟨Bx, 0, none⟩ = some (.int .i64 x.1) := by simp [World.cell?, bX]
    have hx1 : W.cell? ⟨Bx, 1, none⟩ = some (.int .i64 x.2) := by simp [World.cell?, bX]
    have hBX := Aside0.mk bX
    clear bX
    gi_wp2_with (gi_at_builtin; refine wpListIn_append_own _ rfl _ _ 46 rfl w.heap.size 55 i0 (.agg #[.int .i64 0, .int .i64 0]) 2 16 Try.underlying46 hi hz0 hz1 hz2 rfl (by decide) _ _ _ rfl (hrow.alloc _) ⟨W.heap.size, 0, none⟩ 1 1 [.int .i64 x.1, .int .i64 x.2] rfl rfl (cell_two_new _ _ _ _) (by simp [Value.oneCell']) (by unfold maxLen; omega) (by omega) (by have := hB.size; simp; omega) ?_; intro v' w1 hown' hgrow _; obtain ⟨g', cap', rfl⟩ := ownsRow_succ hown'; obtain ⟨hv1, hv2, hr2, hk2, hb2⟩ := hv.appended (by decide) hrow hB.size (Nat.le_refl _) hown' hgrow; have hc1 := hv1.cell; have hf1 := hv1.frozen)
    exact ⟨hk2.from _, hb2, ⟨_, hv2, by rw [flatE_snoc, List.length_append]; exact hr2, trivial⟩, hB.trans hb2⟩
  case done =>
    rintro D ys W hD rfl ⟨⟨v, hv, hrow, _⟩, hB⟩ hK
    have hc := hv.cell
    gi_wp2
    refine ⟨by simp, .inl ⟨_, _, rfl, run_takeDeferred hK, ?_⟩⟩
    exact ⟨_, results_tmp rfl _ _ _, v, rfl, ownsRow_putObj hrow _ hK rfl, hB.trans (belowK_b (w := w) (Nat.le_refl _) W D _ _ (by omega) hK rfl rfl)⟩
  case stop =>
    rintro D c pre W _ _ h _
    exact h.elim
def Came (w : World) (zs : List En) (e : Ending) (W' : World) : Prop := ∃ v, e = .returned v ∧ W'.ownsRow w.heap.size 55 2 v zs.length (flatE zs) ∧ Below w.heap.size w W'
theorem appendSeq_calls (Bs c : Nat) (A : Option Addr) (zs : List En) (hl : zs.length ≤ 1000000) (w : World) (hBs : Bs < w.heap.size) (hc : w.cell? ⟨Bs, 0, none⟩ = some (.slice A zs.length c)) (hE : Ens w.heap.size w A zs) :
    Calls Try.prog 33 #[.slice none 0 0, .func (.func 30) #[] #[.pointer (some ⟨Bs, 0, none⟩)]] w (Came w zs) :=
  (callsIn_wide (n := 3)).1 (appendSeq_in Fence.wide 3 trivial trivial rfl (Nat.le_refl _) Bs c A zs hl w hBs hc hE)
set_option maxHeartbeats 4000000 in
set_option maxRecDepth 100000 in
theorem collect_calls (Bs c : Nat) (A : Option Addr) (zs : List En) (hl : zs.length ≤ 1000000) (w : World) (hBs : Bs < w.heap.size) (hc : w.cell? ⟨Bs, 0, none⟩ = some (.slice A zs.length c)) (hE : Ens w.heap.size w A zs) :
    Calls Try.prog 28 #[.func (.func 30) #[] #[.pointer (some ⟨Bs, 0, none⟩)]] w (Came w zs) := by
  have HA := Aside0.mk (appendSeq_calls Bs c A zs hl w hBs hc hE)
  clear hc hE
  go_enter Try.func28, Try.ntmps28
  go_wp2_with fail
  refine HA.out.mono ?_
  rintro e w1 ⟨v, rfl, hr, hb⟩
  have HR := Aside0.mk hr
  have HB := Aside0.mk hb
  clear hr hb HA
  go_wp2
  go_ret
  exact ⟨v, rfl, HR.out, HB.out⟩
end Go.Proofs.Ytebmhjiogomheaa.Hand
