/- Due under a law; answers; DueNone walked by hand. -/
import Derived.Test.YtebmhjiogomheaaDueOps
namespace Go.Proofs.Ytebmhjiogomheaa.Hand
open Go.RowKit Go.Proofs.YtebmhjiogomheaaW.PrintWords Go.Proofs.YtebmhjiogomheaaW.PrintLast Go.Proofs.YtebmhjiogomheaaW.PrintMore Go.Proofs.Ytebmhjiogomheaa.PA
set_option linter.unusedVariables false
set_option linter.unusedSimpArgs false
/-- A law began in W: the Due is in blocks made since. -/
def DL (W w : World) (F : Nat → Prop) (q : Nat) (p : List En) : Prop := Pl w F q p ∧ (∀ k, F k → W.heap.size ≤ k ∧ k < w.heap.size) ∧ Below W.heap.size W w
section
variable {W w w' : World} {F F' : Nat → Prop} {q : Nat} {p p' : List En}
theorem DL.below (h : DL W w F q p) (hb : Below w.heap.size w w') : DL W w' F q p := ⟨h.1.below hb, fun k hk => ⟨(h.2.1 k hk).1, Nat.lt_of_lt_of_le (h.2.1 k hk).2 hb.size⟩, h.2.2.trans (hb.mono h.2.2.size)⟩
theorem DL.grow (h : DL W w F q p) (hP : Pl w' F' q p') (hg : Grew F F' w w') (hc : Chg F w w') : DL W w' F' q p' :=
  ⟨hP, fun k hk => ⟨(hg k hk).1.elim (fun g => (h.2.1 k g).1) (Nat.le_trans h.2.2.size), (hg k hk).2⟩, h.2.2.trans (hc.to_below (B := W.heap.size) (fun k hk => (h.2.1 k hk).1) h.2.2.size)⟩
theorem DL.same (h : DL W w F q p) (hP : Pl w' F q p') (hc : Chg F w w') : DL W w' F q p' :=
  ⟨hP, fun k hk => ⟨(h.2.1 k hk).1, Nat.lt_of_lt_of_le (h.2.1 k hk).2 hc.size⟩, h.2.2.trans (hc.to_below (B := W.heap.size) (fun k hk => (h.2.1 k hk).1) h.2.2.size)⟩
theorem DL.set (h : DL W w F q p) (id t : Int) (hl : p.length ≤ 99999) :
    Calls Try.prog 12 #[.pointer (some ⟨q, 0, none⟩), .int .i64 id, .int .i64 t] w fun e w' => e = .returned (.tuple #[]) ∧ ∃ F', DL W w' F' q (setF p id t) :=
  (set_calls w F q p h.1 id t hl).mono fun e w' ⟨h1, F', h2, h3, h4⟩ => ⟨h1, F', h.grow h2 h3 h4⟩
theorem DL.drop (h : DL W w F q p) (id : Int) (hl : p.length ≤ 100000) :
    Calls Try.prog 10 #[.pointer (some ⟨q, 0, none⟩), .int .i64 id] w fun e w' => e = .returned (.bool (decide (idxN id p < p.length))) ∧ DL W w' F q (dropF p id) :=
  (drop_calls w F q p h.1 id hl).mono fun e w' ⟨h1, h2, h3⟩ => ⟨h1, h.same h2 h3⟩
theorem DL.new (W : World) : Calls Try.prog 9 #[] W fun e w' => ∃ q F, e = .returned (.pointer (some ⟨q, 0, none⟩)) ∧ DL W w' F q [] :=
  (new_calls W).mono fun e w' ⟨q, h1, h2, h3⟩ => ⟨q, _, h1, h2, fun k hk => hk, h3⟩
end
theorem a1 : setF [] 2 5 = [(2, 5)] := by decide +kernel
theorem a2 : setF [(2, 5)] 1 5 = [(1, 5), (2, 5)] := by decide +kernel
theorem a3 : firstF [(1, 5), (2, 5)] 5 = (1, true) := by decide +kernel
theorem a4 : decide (idxN 1 [((1 : Int), (5 : Int)), (2, 5)] < [((1 : Int), (5 : Int)), (2, 5)].length) = true ∧ dropF [(1, 5), (2, 5)] 1 = [(2, 5)] := by decide +kernel
theorem a5 : decide (idxN 1 [((2 : Int), (5 : Int))] < [((2 : Int), (5 : Int))].length) = false := by decide +kernel
set_option maxRecDepth 100000 in
set_option maxHeartbeats 16000000 in
theorem answers_calls (W : World) : Calls Try.prog 8 #[] W fun e w' => e = .returned (.bool true) ∧ Below W.heap.size W w' := by
  have HN := Aside0.mk (DL.new W)
  go_enter Try.func8, Try.ntmps8
  go_wp2_with fail
  refine HN.out.mono ?_
  rintro e w1 ⟨q, F1, rfl, h1⟩
  have HS := Aside0.mk (h1.set 2 5 (by simp))
  rw [a1] at HS
  clear h1 HN
  go_wp2_with fail
  refine HS.out.mono ?_
  rintro e w2 ⟨rfl, F2, h2⟩
  have HS := Aside0.mk (h2.set 1 5 (by decide))
  rw [a2] at HS
  clear h2
  go_wp2_with fail
  refine HS.out.mono ?_
  rintro e w3 ⟨rfl, F3, h3⟩
  have HF := Aside0.mk (first_calls w3 F3 q _ h3.1 5 (by decide))
  have H3 := Aside0.mk h3
  unfold FirstPost at HF
  rw [a3] at HF
  clear h3 HS
  go_wp2_with fail
  refine HF.out.mono ?_
  rintro e w4 ⟨rfl, hw4⟩
  subst hw4
  have HD := Aside0.mk (H3.out.drop 1 (by decide))
  rw [a4.1, a4.2] at HD
  clear HF
  go_wp2_with fail
  refine HD.out.mono ?_
  rintro e w5 ⟨rfl, h5⟩
  have HD2 := Aside0.mk (h5.drop 1 (by decide))
  rw [a5] at HD2
  clear h5 HD
  go_wp2_with fail
  refine HD2.out.mono ?_
  rintro e w6 ⟨rfl, h6⟩
  have HB := Aside0.mk h6.2.2
  clear h6 HD2
  go_wp2
  go_ret
  exact ⟨rfl, HB.out⟩
/-! ## A Due that is none -/
theorem set_nil (w : World) (id t : Int) : Calls Try.prog 12 #[.pointer none, .int .i64 id, .int .i64 t] w fun e w' => e = .returned (.tuple #[]) ∧ w' = w := by
  go_enter Try.func12, Try.ntmps12
  go_wp2
  refine bodyPost_end (results_none rfl _ _ _) rfl ?_
  exact ⟨rfl, rfl⟩
theorem drop_nil (w : World) (id : Int) : Calls Try.prog 10 #[.pointer none, .int .i64 id] w fun e w' => e = .returned (.bool false) ∧ w' = w := by
  go_enter Try.func10, Try.ntmps10
  go_wp2
  go_ret
  exact ⟨rfl, rfl⟩
def FirstNil (w : World) (e : Ending) (w' : World) : Prop := e = .returned (.tuple #[.int .i64 0, .bool false]) ∧ w' = w
theorem first_nil (w : World) (now : Int) : Calls Try.prog 14 #[.pointer none, .int .i64 now] w (FirstNil w) := by
  go_enter Try.func14, Try.ntmps14
  go_wp2
  go_ret2
  exact ⟨rfl, rfl⟩
theorem all_nil (w : World) : Calls Try.prog 17 #[.pointer none] w fun e w' => e = .returned (.slice none 0 0) ∧ w' = w := by
  go_enter Try.func17, Try.ntmps17
  go_wp2
  go_ret
  exact ⟨rfl, rfl⟩
set_option maxRecDepth 100000 in
set_option maxHeartbeats 16000000 in
theorem DueNone_calls (W : World) (n : Int) : Calls Try.prog 5 #[.int .i64 n] W fun e w' => e = .returned (.bool true) ∧ Below W.heap.size W w' := by
  have H1 := Aside0.mk (fun w => set_nil w n n)
  have H2 := Aside0.mk (fun w => first_nil w n)
  have H3 := Aside0.mk (fun w => drop_nil w n)
  go_enter Try.func5, Try.ntmps5
  go_wp2_with fail
  refine (H1.out _).mono ?_
  rintro e w1 ⟨rfl, hw1⟩
  subst hw1
  go_wp2_with fail
  refine (H2.out _).mono ?_
  rintro e w2 ⟨rfl, hw2⟩
  subst hw2
  go_wp2_with fail
  refine (answers_calls _).mono ?_
  rintro e w3 ⟨rfl, hb3⟩
  have HB := Aside0.mk hb3
  clear hb3
  go_wp2_with fail
  refine (H3.out _).mono ?_
  rintro e w4 ⟨rfl, hw4⟩
  subst hw4
  go_wp2_with fail
  refine (all_nil _).mono ?_
  rintro e w5 ⟨rfl, hw5⟩
  subst hw5
  go_wp2
  go_ret
  exact ⟨rfl, HB.out⟩
end Go.Proofs.Ytebmhjiogomheaa.Hand
