/- The pile of what is due, in memory; its methods, and how container/heap reaches them. -/
import Derived.Test.YtebmhjiogomheaaPAx
import Derived.Test.YtebmhjiogomheaaWMore
import Derived.Test.YtebmhjiogomheaaWLast
import Derived.Test.YtebmhjiogomheaaChg
import Derived.WalkKit
import Derived.ProofKit
namespace Go.Proofs.Ytebmhjiogomheaa.Hand
open Go.RowKit Go.Proofs.YtebmhjiogomheaaW.PrintWords Go.Proofs.YtebmhjiogomheaaW.PrintLast Go.Proofs.YtebmhjiogomheaaW.PrintMore Go.Proofs.Ytebmhjiogomheaa.PA
set_option linter.unusedVariables false
set_option linter.unusedSimpArgs false
/-- An entry: its id, its time. -/
abbrev En := Int × Int
abbrev kE : Kd En := Kd.pair (Kd.int .i64) (Kd.int .i64)
abbrev eV (e : En) : Value := .agg #[.int .i64 e.1, .int .i64 e.2]
/-- Which is due first. -/
def ltE (x y : En) : Bool := decide (x.2 < y.2 ∨ (x.2 = y.2 ∧ x.1 < y.1))
def cmpE (x y : En) : Int := if x.2 < y.2 then -1 else if y.2 < x.2 then 1 else if x.1 < y.1 then -1 else if y.1 < x.1 then 1 else 0
theorem cmpE_lt (x y : En) : decide (cmpE x y < 0) = ltE x y := by
  unfold cmpE ltE
  rw [decide_eq_decide]
  repeat' split
  all_goals omega
theorem compare_one (x y : Int) : cmp_Compare_int.f x y = some (if x < y then -1 else if y < x then 1 else 0) := by
  unfold cmp_Compare_int.f cmp_isNaN_int.f
  simp only [bne_self_eq_false, Option.bind_some, Bool.false_eq_true, if_false, gt_iff_lt]
  repeat' split
  all_goals rfl
theorem or_two (x y : Int) : cmp_Or_int.f 3 [x, y] = some (if x = 0 then y else x) := by
  have h0 : rd [x, y] 0 = x := rfl
  have w1 : wrap64 (0 + 1) = 1 := by decide +kernel
  have w2 : wrap64 (1 + 1) = 2 := by decide +kernel
  unfold cmp_Or_int.f
  simp only [cmp_Or_int.l0, List.length_cons, List.length_nil, w1, w2]
  by_cases hx : x = 0
  · by_cases hy : y = 0
    · subst hx hy
      rfl
    · have e1 : rd [x, y] 1 = y := rfl
      rw [h0, e1, if_pos hx, if_neg hy, if_pos hx]
      rfl
  · rw [h0, if_neg hx, if_neg hx]
    rfl
theorem compare_calls (x y : En) (w : World) :
    Calls Try.prog 23 #[eV x, eV y] w fun e w' => e = .returned (.int .i64 (cmpE x y)) ∧ Below w.heap.size w w' := by
  refine due_entry_compare.calls 3 x.1 x.2 y.1 y.2 (cmpE x y) w ?_
  unfold due_entry_compare.f
  rw [compare_one, compare_one, Option.bind_some, Option.bind_some, or_two, Option.bind_some]
  unfold cmpE
  congr 1
  repeat' split
  all_goals first | rfl | omega
/-! ## How the heap reaches the methods -/
abbrev pI (q : Nat) : Value := .iface 52 (.pointer (some ⟨q, 0, none⟩))
theorem m_push (a : Addr) (w : World) : (method 216 52 (.pointer (some a)) "Push").run Try.prog w = .ok (73, .pointer (some a)) w := by kernel_rfl
theorem m_pop (a : Addr) (w : World) : (method 216 52 (.pointer (some a)) "Pop").run Try.prog w = .ok (72, .pointer (some a)) w := by kernel_rfl
theorem load_pile (a : Addr) (A : Option Addr) (n c : Nat) (w : World) (h : w.cell? a = some (.slice A n c)) : (loadVar 47 a).run Try.prog w = .ok (.slice A n c) w := by
  go_simp
theorem m_val (name : String) (f : Nat) (a : Addr) (A : Option Addr) (n c : Nat) (w : World) (h : w.cell? a = some (.slice A n c)) (hm : (method 216 52 (.pointer (some a)) name).run Try.prog w = ((loadVar 47 a) >>= fun v => pure (f, v)).run Try.prog w) :
    (method 216 52 (.pointer (some a)) name).run Try.prog w = .ok (f, .slice A n c) w := by
  rw [hm]
  have hl := load_pile a A n c w h
  go_simp
theorem m_len (a : Addr) (A : Option Addr) (n c : Nat) (w : World) (h : w.cell? a = some (.slice A n c)) : (method 216 52 (.pointer (some a)) "Len").run Try.prog w = .ok (69, .slice A n c) w := m_val _ _ a A n c w h (by kernel_rfl)
theorem m_less (a : Addr) (A : Option Addr) (n c : Nat) (w : World) (h : w.cell? a = some (.slice A n c)) : (method 216 52 (.pointer (some a)) "Less").run Try.prog w = .ok (70, .slice A n c) w := m_val _ _ a A n c w h (by kernel_rfl)
theorem m_swap (a : Addr) (A : Option Addr) (n c : Nat) (w : World) (h : w.cell? a = some (.slice A n c)) : (method 216 52 (.pointer (some a)) "Swap").run Try.prog w = .ok (71, .slice A n c) w := m_val _ _ a A n c w h (by kernel_rfl)
theorem e_push (args : Array Value) (w : World) : (callFunc 73 args).run Try.prog w = .ok (.enter 73 args) w := by kernel_rfl
theorem e_pop (args : Array Value) (w : World) : (callFunc 72 args).run Try.prog w = .ok (.enter 72 args) w := by kernel_rfl
theorem e_len (args : Array Value) (w : World) : (callFunc 69 args).run Try.prog w = .ok (.enter 69 args) w := by kernel_rfl
theorem e_less (args : Array Value) (w : World) : (callFunc 70 args).run Try.prog w = .ok (.enter 70 args) w := by kernel_rfl
theorem e_swap (args : Array Value) (w : World) : (callFunc 71 args).run Try.prog w = .ok (.enter 71 args) w := by kernel_rfl
/-! ## The pile in memory -/
theorem pile_at {w : World} {base : Nat} {F : Nat → Prop} {g n c : Nat} {p : List En} (h : kE.R 55 w base F (.slice (some ⟨g, 0, none⟩) n c) p) (i : Nat) (hi : i < p.length) :
    w.cell? ⟨g, i * 2, none⟩ = some (.int .i64 p[i].1) ∧ w.cell? ⟨g, i * 2 + 1, none⟩ = some (.int .i64 p[i].2) := by
  obtain ⟨hn, _, hC⟩ := Kd.R_reads' h
  subst hn
  obtain ⟨ad, cs, e, _, hK, hcell⟩ := Kd.C_get hC ((0 : Int), (0 : Int)) (i : Int) (by omega) (by omega)
  injection e with e
  subst e
  rw [Int.toNat_natCast, List.getD_eq_getElem?_getD, List.getElem?_eq_getElem hi] at hK
  obtain ⟨c0, c1, rfl, h0, h1⟩ := hK
  change c0 = [.int .i64 p[i].1] at h0
  change c1 = [.int .i64 p[i].2] at h1
  subst h0 h1
  rw [Int.toNat_natCast] at hcell
  have e0 := hcell 0 _ rfl
  have e1 := hcell 1 _ rfl
  rw [add_plain] at e0 e1
  exact ⟨e0, e1⟩
set_option maxHeartbeats 8000000 in
set_option maxRecDepth 100000 in
theorem len_calls (A : Option Addr) (n c : Nat) (w : World) : Calls Try.prog 69 #[.slice A n c] w fun e w' => e = .returned (.int .i64 n) ∧ w' = w := by
  go_enter Try.func69, Try.ntmps69
  go_wp2
  go_ret
  exact ⟨rfl, rfl⟩
set_option maxHeartbeats 8000000 in
set_option maxRecDepth 100000 in
theorem less_calls (w : World) (base : Nat) (F : Nat → Prop) (g n c : Nat) (p : List En) (h : kE.R 55 w base F (.slice (some ⟨g, 0, none⟩) n c) p) (i j : Nat) (hi : i < p.length) (hj : j < p.length) :
    Calls Try.prog 70 #[.slice (some ⟨g, 0, none⟩) n c, .int .i64 i, .int .i64 j] w fun e w' => e = .returned (.bool (ltE p[i] p[j])) ∧ Below w.heap.size w w' := by
  obtain ⟨hi0, hi1⟩ := pile_at h i hi
  obtain ⟨hj0, hj1⟩ := pile_at h j hj
  have hn : n = p.length := (Kd.R_reads' h).1
  obtain ⟨x, hx⟩ : ∃ x, x = p[i] := ⟨_, rfl⟩
  obtain ⟨y, hy⟩ : ∃ y, y = p[j] := ⟨_, rfl⟩
  rw [← hx] at hi0 hi1
  rw [← hy] at hj0 hj1
  rw [← hx, ← hy]
  have hin : (i : Int) < n := by omega
  have hjn : (j : Int) < n := by omega
  have HCM := Aside0.mk (show ∀ w, Calls Try.prog 23 #[.agg #[.int .i64 x.1, .int .i64 x.2], .agg #[.int .i64 y.1, .int .i64 y.2]] w fun e w' => e = .returned (.int .i64 (cmpE x y)) ∧ Below w.heap.size w w' from compare_calls x y)
  have HCL := Aside0.mk (cmpE_lt x y)
  clear h hx hy hn
  go_enter Try.func70, Try.ntmps70
  go_wp2
  refine start_ (n := 11) (S := fun w' => w'.cell? ⟨g, i * 2, none⟩ = some (.int .i64 x.1) ∧ w'.cell? ⟨g, i * 2 + 1, none⟩ = some (.int .i64 x.2) ∧ w'.cell? ⟨g, j * 2, none⟩ = some (.int .i64 y.1) ∧ w'.cell? ⟨g, j * 2 + 1, none⟩ = some (.int .i64 y.2)) (ds := [8]) #[false, false, false, false, false, false, false, false, false, false, false] (by kernel_rfl) rfl rfl ⟨hi0, hi1, hj0, hj1⟩ (fun hHeld => ?_)
  refine pure_ (i := 0) (N := some 7) (v := ?_) (a' := ?_) #[true, false, false, false, false, false, false, false, false, false, false] rfl rfl (by kernel_rfl) (fun _ _ _ h => h) (Or.inl ⟨by rfl, ?_⟩) ?_ ?_
  rotate_left
  · intro w'
    go_simp
    with_reducible rfl
  rotate_left
  · simp only [Act.put, List.setIfInBounds_toArray, List.set_cons_zero, List.set_cons_succ, i64_w, i32_w]
    rfl
  refine pure_ (i := 1) (N := some 8) (v := ?_) (a' := ?_) #[true, true, false, false, false, false, false, false, false, false, false] rfl rfl (by kernel_rfl) (fun _ _ _ h => h) (Or.inl ⟨by rfl, ?_⟩) ?_ ?_
  rotate_left
  · intro w'
    go_simp
    with_reducible rfl
  rotate_left
  · simp only [Act.put, List.setIfInBounds_toArray, List.set_cons_zero, List.set_cons_succ, i64_w, i32_w]
    rfl
  refine pure_ (i := 2) (N := some 9) (v := ?_) (a' := ?_) #[true, true, true, false, false, false, false, false, false, false, false] rfl rfl (by kernel_rfl) (fun _ _ _ h => h) (Or.inl ⟨by rfl, ?_⟩) ?_ ?_
  rotate_left
  · intro w'
    go_simp
    with_reducible rfl
  rotate_left
  · simp only [Act.put, List.setIfInBounds_toArray, List.set_cons_zero, List.set_cons_succ, i64_w, i32_w]
    rfl
  refine pure_ (i := 4) (N := some 11) (v := ?_) (a' := ?_) #[true, true, true, false, true, false, false, false, false, false, false] rfl rfl (by kernel_rfl) (fun _ _ _ h => h) (Or.inl ⟨by rfl, ?_⟩) ?_ ?_
  rotate_left
  · intro w'
    go_simp
    with_reducible rfl
  rotate_left
  · simp only [Act.put, List.setIfInBounds_toArray, List.set_cons_zero, List.set_cons_succ, i64_w, i32_w]
    rfl
  refine pure_ (i := 5) (N := some 12) (v := ?_) (a' := ?_) #[true, true, true, false, true, true, false, false, false, false, false] rfl rfl (by kernel_rfl) (fun _ _ _ h => h) (Or.inl ⟨by rfl, ?_⟩) ?_ ?_
  rotate_left
  · intro w'
    go_simp
    with_reducible rfl
  rotate_left
  · simp only [Act.put, List.setIfInBounds_toArray, List.set_cons_zero, List.set_cons_succ, i64_w, i32_w]
    rfl
  refine pure_ (i := 6) (N := some 13) (v := ?_) (a' := ?_) #[true, true, true, false, true, true, true, false, false, false, false] rfl rfl (by kernel_rfl) (fun _ _ _ h => h) (Or.inl ⟨by rfl, ?_⟩) ?_ ?_
  rotate_left
  · intro w'
    go_simp
    with_reducible rfl
  rotate_left
  · simp only [Act.put, List.setIfInBounds_toArray, List.set_cons_zero, List.set_cons_succ, i64_w, i32_w]
    rfl
  refine take_ (i := 3) (N := some 10) (v := ?_) (a' := ?_) #[true, true, true, true, true, true, true, false, false, false, false] rfl rfl (by kernel_rfl) (fun _ _ _ h => h) (Or.inl ⟨by rfl, ?_⟩) hHeld ?_ ?_
  rotate_left
  · rintro w' ⟨s0, s1, s2, s3⟩
    go_simp
    with_reducible rfl
  rotate_left
  · simp only [Act.put, List.setIfInBounds_toArray, List.set_cons_zero, List.set_cons_succ, i64_w, i32_w]
    rfl
  refine take_ (i := 7) (N := some 14) (v := ?_) (a' := ?_) #[true, true, true, true, true, true, true, true, false, false, false] rfl rfl (by kernel_rfl) (fun _ _ _ h => h) (Or.inl ⟨by rfl, ?_⟩) hHeld ?_ ?_
  rotate_left
  · rintro w' ⟨s0, s1, s2, s3⟩
    go_simp
    with_reducible rfl
  rotate_left
  · simp only [Act.put, List.setIfInBounds_toArray, List.set_cons_zero, List.set_cons_succ, i64_w, i32_w]
    rfl
  refine last_ (i := 8) (N := some 15) #[true, true, true, true, true, true, true, true, true, false, false] rfl rfl (by kernel_rfl) (by decide) (fun K hK => ?_)
  refine goes_ Try.func23 (by kernel_rfl) rfl #[.agg #[.int .i64 x.1, .int .i64 x.2], .agg #[.int .i64 y.1, .int .i64 y.2]] (by rfl) rfl rfl (by simp only [List.map_toArray, List.map_cons, List.map_nil]; rfl) ?_
  with_reducible refine (HCM.out _).mono ?_
  rintro e w3 ⟨rfl, hb3⟩
  refine ⟨_, rfl, ?_⟩
  have HB3 := Aside0.mk (below_drew (Below.refl w.heap.size w) |>.trans hb3)
  clear hb3
  refine hK.out _ _ ?_
  clear hK K
  refine norm_ (a' := ?_) ?_ ?_
  rotate_left
  · show Act.put _ (some 15) _ = _
    simp only [Act.put, List.setIfInBounds_toArray, List.set_cons_zero, List.set_cons_succ, i64_w, i32_w]
    rfl
  refine pure_ (i := 9) (N := some 16) (v := ?_) (a' := ?_) #[true, true, true, true, true, true, true, true, true, true, false] rfl rfl (by kernel_rfl) (fun _ _ _ h => h) (Or.inl ⟨by rfl, ?_⟩) ?_ ?_
  rotate_left
  · intro w'
    go_simp
    with_reducible rfl
  rotate_left
  · simp only [Act.put, List.setIfInBounds_toArray, List.set_cons_zero, List.set_cons_succ, i64_w, i32_w]
    rfl
  refine pure_ (i := 10) (N := some 6) (v := ?_) (a' := ?_) #[true, true, true, true, true, true, true, true, true, true, true] rfl rfl (by kernel_rfl) (fun _ _ _ h => h) (Or.inl ⟨by rfl, ?_⟩) ?_ ?_
  rotate_left
  · intro w'
    go_simp
    with_reducible rfl
  rotate_left
  · simp only [Act.put, List.setIfInBounds_toArray, List.set_cons_zero, List.set_cons_succ, i64_w, i32_w]
    rfl
  refine done_ (by kernel_rfl) ?_
  go_wp2
  go_ret
  exact ⟨by rw [← HCL.out]; rfl, HB3.out⟩
/-- An element of the pile, another one. -/
theorem pile_set {w : World} {base : Nat} {F : Nat → Prop} {g n c : Nat} {p : List En} (h : kE.R 55 w base F (.slice (some ⟨g, 0, none⟩) n c) p) (i : Nat) (hi : i < p.length) (x : En) :
    kE.R 55 ((w.setCell ⟨g, i * 2, none⟩ (.int .i64 x.1)).setCell ⟨g, i * 2 + 1, none⟩ (.int .i64 x.2)) base F (.slice (some ⟨g, 0, none⟩) n c) (p.set i x) ∧ w.grownBy ((w.setCell ⟨g, i * 2, none⟩ (.int .i64 x.1)).setCell ⟨g, i * 2 + 1, none⟩ (.int .i64 x.2)) (some g) := by
  obtain ⟨h0, h1⟩ := pile_at h i hi
  have hn : n = p.length := (Kd.R_reads' h).1
  have := Kd.R_seg (j := 0) (seg := [.int .i64 x.1, .int .i64 x.2]) (c := [.int .i64 p[i].1, .int .i64 p[i].2]) (x' := x) (okp := fun _ => False) h (i : Int) (by omega) (by omega) rfl (fun j u hu => by
    rw [Int.toNat_natCast]
    rcases j with _ | j
    · simp only [List.getElem?_cons_zero, Option.some.injEq] at hu
      rw [← hu]
      exact h0
    · rcases j with _ | j
      · simp only [List.getElem?_cons_succ, List.getElem?_cons_zero, Option.some.injEq] at hu
        rw [← hu]
        exact h1
      · simp at hu) (Nat.le_refl 2) ⟨[.int .i64 x.1], [.int .i64 x.2], rfl, rfl, rfl⟩ (fun _ hk => hk.elim)
  rw [Int.toNat_natCast] at this
  exact this
theorem pile_frozen {w : World} {base : Nat} {F : Nat → Prop} {g n c : Nat} {p : List En} (h : kE.R 55 w base F (.slice (some ⟨g, 0, none⟩) n c) p) (hp : 0 < p.length) (j : Nat) : w.frozen? ⟨g, j, none⟩ = false := by
  obtain ⟨g', cap, e, _, _, cells, hc⟩ := Kd.R_form h hp
  injection e with e
  injection e with e
  injection e with e
  subst e
  exact blk_frozen hc j
theorem grown_then {w w2 w3 : World} {row : Option Nat} (h : w.grownBy w2 row) (k : w2.grownBy w3 row) : w.grownBy w3 row := ⟨k.os.trans h.os, k.tape.trans h.tape, k.output.trans h.output, Nat.le_trans h.size k.size, fun i hi hne => (k.block i (Nat.lt_of_lt_of_le hi h.size) hne).trans (h.block i hi hne)⟩
set_option maxHeartbeats 8000000 in
set_option maxRecDepth 100000 in
theorem swap_calls (w : World) (base : Nat) (F : Nat → Prop) (g n c : Nat) (p : List En) (h : kE.R 55 w base F (.slice (some ⟨g, 0, none⟩) n c) p) (i j : Nat) (hi : i < p.length) (hj : j < p.length) :
    Calls Try.prog 71 #[.slice (some ⟨g, 0, none⟩) n c, .int .i64 i, .int .i64 j] w fun e w' => e = .returned (.tuple #[]) ∧ kE.R 55 w' base F (.slice (some ⟨g, 0, none⟩) n c) ((p.set i p[j]).set j p[i]) ∧ w.grownBy w' (some g) := by
  obtain ⟨hi0, hi1⟩ := pile_at h i hi
  obtain ⟨hj0, hj1⟩ := pile_at h j hj
  have hn : n = p.length := (Kd.R_reads' h).1
  have hfi0 := pile_frozen h (by omega) (i * 2)
  have hfi1 := pile_frozen h (by omega) (i * 2 + 1)
  have hfj0 := pile_frozen h (by omega) (j * 2)
  have hfj1 := pile_frozen h (by omega) (j * 2 + 1)
  obtain ⟨x, hx⟩ : ∃ x, x = p[i] := ⟨_, rfl⟩
  obtain ⟨y, hy⟩ : ∃ y, y = p[j] := ⟨_, rfl⟩
  rw [← hx] at hi0 hi1
  rw [← hy] at hj0 hj1
  rw [← hx, ← hy]
  have hin : (i : Int) < n := by omega
  have hjn : (j : Int) < n := by omega
  have H := Aside0.mk h
  have HIJ := Aside0.mk (And.intro hi hj)
  clear h hx hy hn hi hj
  go_enter Try.func71, Try.ntmps71
  go_wp2
  refine start_ (n := 16) (S := fun w' => w'.cell? ⟨g, i * 2, none⟩ = some (.int .i64 x.1) ∧ w'.cell? ⟨g, i * 2 + 1, none⟩ = some (.int .i64 x.2) ∧ w'.cell? ⟨g, j * 2, none⟩ = some (.int .i64 y.1) ∧ w'.cell? ⟨g, j * 2 + 1, none⟩ = some (.int .i64 y.2)) (ds := [13, 15]) #[false, false, false, false, false, false, false, false, false, false, false, false, false, false, false, false] (by kernel_rfl) rfl rfl ⟨hi0, hi1, hj0, hj1⟩ (fun hHeld => ?_)
  refine pure_ (i := 0) (N := some 6) (v := ?_) (a' := ?_) #[true, false, false, false, false, false, false, false, false, false, false, false, false, false, false, false] rfl rfl (by kernel_rfl) (fun _ _ _ h => h) (Or.inl ⟨by rfl, ?_⟩) ?_ ?_
  rotate_left
  · intro w'
    go_simp
    with_reducible rfl
  rotate_left
  · simp only [Act.put, List.setIfInBounds_toArray, List.set_cons_zero, List.set_cons_succ, i64_w, i32_w]
    rfl
  refine pure_ (i := 1) (N := some 7) (v := ?_) (a' := ?_) #[true, true, false, false, false, false, false, false, false, false, false, false, false, false, false, false] rfl rfl (by kernel_rfl) (fun _ _ _ h => h) (Or.inl ⟨by rfl, ?_⟩) ?_ ?_
  rotate_left
  · intro w'
    go_simp
    with_reducible rfl
  rotate_left
  · simp only [Act.put, List.setIfInBounds_toArray, List.set_cons_zero, List.set_cons_succ, i64_w, i32_w]
    rfl
  refine pure_ (i := 2) (N := some 8) (v := ?_) (a' := ?_) #[true, true, true, false, false, false, false, false, false, false, false, false, false, false, false, false] rfl rfl (by kernel_rfl) (fun _ _ _ h => h) (Or.inl ⟨by rfl, ?_⟩) ?_ ?_
  rotate_left
  · intro w'
    go_simp
    with_reducible rfl
  rotate_left
  · simp only [Act.put, List.setIfInBounds_toArray, List.set_cons_zero, List.set_cons_succ, i64_w, i32_w]
    rfl
  refine pure_ (i := 3) (N := some 9) (v := ?_) (a' := ?_) #[true, true, true, true, false, false, false, false, false, false, false, false, false, false, false, false] rfl rfl (by kernel_rfl) (fun _ _ _ h => h) (Or.inl ⟨by rfl, ?_⟩) ?_ ?_
  rotate_left
  · intro w'
    go_simp
    with_reducible rfl
  rotate_left
  · simp only [Act.put, List.setIfInBounds_toArray, List.set_cons_zero, List.set_cons_succ, i64_w, i32_w]
    rfl
  refine pure_ (i := 4) (N := some 10) (v := ?_) (a' := ?_) #[true, true, true, true, true, false, false, false, false, false, false, false, false, false, false, false] rfl rfl (by kernel_rfl) (fun _ _ _ h => h) (Or.inl ⟨by rfl, ?_⟩) ?_ ?_
  rotate_left
  · intro w'
    go_simp
    with_reducible rfl
  rotate_left
  · simp only [Act.put, List.setIfInBounds_toArray, List.set_cons_zero, List.set_cons_succ, i64_w, i32_w]
    rfl
  refine pure_ (i := 5) (N := some 11) (v := ?_) (a' := ?_) #[true, true, true, true, true, true, false, false, false, false, false, false, false, false, false, false] rfl rfl (by kernel_rfl) (fun _ _ _ h => h) (Or.inl ⟨by rfl, ?_⟩) ?_ ?_
  rotate_left
  · intro w'
    go_simp
    with_reducible rfl
  rotate_left
  · simp only [Act.put, List.setIfInBounds_toArray, List.set_cons_zero, List.set_cons_succ, i64_w, i32_w]
    rfl
  refine pure_ (i := 6) (N := some 12) (v := ?_) (a' := ?_) #[true, true, true, true, true, true, true, false, false, false, false, false, false, false, false, false] rfl rfl (by kernel_rfl) (fun _ _ _ h => h) (Or.inl ⟨by rfl, ?_⟩) ?_ ?_
  rotate_left
  · intro w'
    go_simp
    with_reducible rfl
  rotate_left
  · simp only [Act.put, List.setIfInBounds_toArray, List.set_cons_zero, List.set_cons_succ, i64_w, i32_w]
    rfl
  refine pure_ (i := 8) (N := some 14) (v := ?_) (a' := ?_) #[true, true, true, true, true, true, true, false, true, false, false, false, false, false, false, false] rfl rfl (by kernel_rfl) (fun _ _ _ h => h) (Or.inl ⟨by rfl, ?_⟩) ?_ ?_
  rotate_left
  · intro w'
    go_simp
    with_reducible rfl
  rotate_left
  · simp only [Act.put, List.setIfInBounds_toArray, List.set_cons_zero, List.set_cons_succ, i64_w, i32_w]
    rfl
  refine pure_ (i := 9) (N := some 15) (v := ?_) (a' := ?_) #[true, true, true, true, true, true, true, false, true, true, false, false, false, false, false, false] rfl rfl (by kernel_rfl) (fun _ _ _ h => h) (Or.inl ⟨by rfl, ?_⟩) ?_ ?_
  rotate_left
  · intro w'
    go_simp
    with_reducible rfl
  rotate_left
  · simp only [Act.put, List.setIfInBounds_toArray, List.set_cons_zero, List.set_cons_succ, i64_w, i32_w]
    rfl
  refine pure_ (i := 10) (N := some 16) (v := ?_) (a' := ?_) #[true, true, true, true, true, true, true, false, true, true, true, false, false, false, false, false] rfl rfl (by kernel_rfl) (fun _ _ _ h => h) (Or.inl ⟨by rfl, ?_⟩) ?_ ?_
  rotate_left
  · intro w'
    go_simp
    with_reducible rfl
  rotate_left
  · simp only [Act.put, List.setIfInBounds_toArray, List.set_cons_zero, List.set_cons_succ, i64_w, i32_w]
    rfl
  refine take_ (i := 7) (N := some 13) (v := ?_) (a' := ?_) #[true, true, true, true, true, true, true, true, true, true, true, false, false, false, false, false] rfl rfl (by kernel_rfl) (fun _ _ _ h => h) (Or.inl ⟨by rfl, ?_⟩) hHeld ?_ ?_
  rotate_left
  · rintro w' ⟨s0, s1, s2, s3⟩
    go_simp
    with_reducible rfl
  rotate_left
  · simp only [Act.put, List.setIfInBounds_toArray, List.set_cons_zero, List.set_cons_succ, i64_w, i32_w]
    rfl
  refine take_ (i := 11) (N := some 17) (v := ?_) (a' := ?_) #[true, true, true, true, true, true, true, true, true, true, true, true, false, false, false, false] rfl rfl (by kernel_rfl) (fun _ _ _ h => h) (Or.inl ⟨by rfl, ?_⟩) hHeld ?_ ?_
  rotate_left
  · rintro w' ⟨s0, s1, s2, s3⟩
    go_simp
    with_reducible rfl
  rotate_left
  · simp only [Act.put, List.setIfInBounds_toArray, List.set_cons_zero, List.set_cons_succ, i64_w, i32_w]
    rfl
  refine pure_ (i := 12) (N := some 18) (v := ?_) (a' := ?_) #[true, true, true, true, true, true, true, true, true, true, true, true, true, false, false, false] rfl rfl (by kernel_rfl) (fun _ _ _ h => h) (Or.inl ⟨by rfl, ?_⟩) ?_ ?_
  rotate_left
  · intro w'
    go_simp
    with_reducible rfl
  rotate_left
  · simp only [Act.put, List.setIfInBounds_toArray, List.set_cons_zero, List.set_cons_succ, i64_w, i32_w]
    rfl
  refine last_ (i := 13) (N := none) #[true, true, true, true, true, true, true, true, true, true, true, true, true, true, false, false] rfl rfl (by kernel_rfl) (by decide) (fun K hK => ?_)
  refine skip_ (w1 := ?_) (by rfl) rfl ?_ ?_
  rotate_left
  · go_simp
    rfl
  have HP2 := Aside0.mk (pile_set H.out i HIJ.out.1 y)
  obtain ⟨w2, hw2⟩ : ∃ w2, w2 = ((w.setCell ⟨g, i * 2, none⟩ (.int .i64 y.1)).setCell ⟨g, i * 2 + 1, none⟩ (.int .i64 y.2)).drew := ⟨_, rfl⟩
  rw [← hw2]
  have HR2 := Aside0.mk (show kE.R 55 w2 base F (.slice (some ⟨g, 0, none⟩) n c) (p.set i y) from by rw [hw2]; exact Kd.R_drew HP2.out.1)
  have HG2 := Aside0.mk (show w.grownBy w2 (some g) from by rw [hw2]; exact ⟨HP2.out.2.os, HP2.out.2.tape, HP2.out.2.output, HP2.out.2.size, HP2.out.2.block⟩)
  clear hw2 hi0 hi1 hj0 hj1 hfi0 hfi1 hfj0 hfj1
  obtain ⟨hj0, hj1⟩ := pile_at HR2.out j (by rw [List.length_set]; exact HIJ.out.2)
  have hfj0 := pile_frozen HR2.out (by rw [List.length_set]; have := HIJ.out.2; omega) (j * 2)
  have hfj1 := pile_frozen HR2.out (by rw [List.length_set]; have := HIJ.out.2; omega) (j * 2 + 1)
  refine hK.out _ _ ?_
  clear hK K
  refine pure_ (i := 14) (N := some 19) (v := ?_) (a' := ?_) #[true, true, true, true, true, true, true, true, true, true, true, true, true, true, true, false] rfl rfl (by kernel_rfl) (fun _ _ _ h => h) (Or.inl ⟨by rfl, ?_⟩) ?_ ?_
  rotate_left
  · intro w'
    go_simp
    with_reducible rfl
  rotate_left
  · simp only [Act.put, List.setIfInBounds_toArray, List.set_cons_zero, List.set_cons_succ, i64_w, i32_w]
    rfl
  refine last_ (i := 15) (N := none) #[true, true, true, true, true, true, true, true, true, true, true, true, true, true, true, true] rfl rfl (by kernel_rfl) (by decide) (fun K hK => ?_)
  refine skip_ (w1 := ?_) (by rfl) rfl ?_ ?_
  rotate_left
  · go_simp
    rfl
  refine hK.out _ _ ?_
  clear hK K
  refine done_ (by kernel_rfl) ?_
  have HP3 := Aside0.mk (pile_set HR2.out j (by rw [List.length_set]; exact HIJ.out.2) x)
  go_wp2
  refine bodyPost_end (results_none rfl _ _ _) rfl ?_
  exact ⟨rfl, HP3.out.1, grown_then HG2.out HP3.out.2⟩
end Go.Proofs.Ytebmhjiogomheaa.Hand
