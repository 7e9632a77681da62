/- A disk and a log under a law, and answers. -/
import Derived.Test.YtipclnniaenciaaLogOpen
import Derived.Test.YtipclnniaenciaaDiskPlain
namespace Go.Proofs.Ytipclnniaenciaa.Hand
open Go.RowKit Go.Maps Go.Proofs.YtipclnniaenciaaW.PrintWords Go.Proofs.YtipclnniaenciaaW.PrintLast Go.Proofs.YtipclnniaenciaaW.PrintMore
set_option linter.unusedVariables false
set_option linter.unusedSimpArgs false
def nA : ByteArray := ⟨#[97]⟩
theorem nA_size : nA.size ≤ maxLen := by unfold maxLen; decide
/-- A law began in W: the disk is in blocks A, all made since. -/
def DLaw (W w : World) (A : Nat → Prop) (p : Nat) (st : DSt) : Prop := Dsk w A p st ∧ (∀ k, A k → W.heap.size ≤ k ∧ k < w.heap.size) ∧ Below W.heap.size W w
/-- The log as well. -/
def Law (W w : World) (A B : Nat → Prop) (q p : Nat) (l : LSt) (st : DSt) : Prop := DLaw W w A p st ∧ Lg w B q p l ∧ Off A B ∧ (∀ k, B k → W.heap.size ≤ k ∧ k < w.heap.size)
section
variable {W w w' : World} {A B A' B' : Nat → Prop} {q p : Nat} {l l' : LSt} {st st' : DSt} {r : Int}
theorem DLaw.below (h : DLaw W w A p st) (hb : Below w.heap.size w w') : DLaw W w' A p st := ⟨h.1.below hb, fun k hk => ⟨(h.2.1 k hk).1, Nat.lt_of_lt_of_le (h.2.1 k hk).2 hb.size⟩, h.2.2.trans (hb.mono h.2.2.size)⟩
theorem Law.below (h : Law W w A B q p l st) (hb : Below w.heap.size w w') : Law W w' A B q p l st := ⟨h.1.below hb, h.2.1.below hb, h.2.2.1, fun k hk => ⟨(h.2.2.2 k hk).1, Nat.lt_of_lt_of_le (h.2.2.2 k hk).2 hb.size⟩⟩
theorem Sp.law (h : DLaw W w A p st) (k : Sp w A p w' A' st') : DLaw W w' A' p st' :=
  ⟨k.1, fun x hx => ⟨(k.2.1 x hx).1.elim (fun g => (h.2.1 x g).1) (Nat.le_trans h.2.2.size), (k.2.1 x hx).2⟩, h.2.2.trans (k.2.2.to_below (B := W.heap.size) (fun x hx => (h.2.1 x hx).1) h.2.2.size)⟩
theorem Both.law (h : Law W w A B q p l st) (k : Both w A B q p w' A' B' l' st') : Law W w' A' B' q p l' st' := by
  obtain ⟨h1, h2, h3, h4⟩ := h
  obtain ⟨k1, k2, k3, k4, k5, k6⟩ := k
  exact ⟨⟨k1, fun x hx => ⟨(k3 x hx).1.elim (fun g => (h1.2.1 x g).1) (Nat.le_trans h1.2.2.size), (k3 x hx).2⟩, h1.2.2.trans (k6.to_below (B := W.heap.size) (fun x hx => hx.elim (fun g => (h1.2.1 x g).1) (fun g => (h4 x g).1)) h1.2.2.size)⟩, k2, k5, fun x hx => ⟨(k4 x hx).1.elim (fun g => (h4 x g).1) (Nat.le_trans h1.2.2.size), (k4 x hx).2⟩⟩
/-- A block that was made behind both. -/
theorem Law.new (h : Law W w A B q p l st) {g : Nat} (hg : w.heap.size ≤ g) : ¬ (A g ∨ B g) := fun k => k.elim (fun k => by have := (h.1.2.1 g k).2; omega) (fun k => by have := (h.2.2.2 g k).2; omega)
/-- What lay apart from both lies apart still. -/
theorem Both.apart {C : Nat → Prop} (k : Both w A B q p w' A' B' l' st') (hl : ∀ x, C x → x < w.heap.size) (hA : Off A C) (hB : Off B C) : Off A' C ∧ Off B' C := ⟨k.2.2.1.off hA hl, k.2.2.2.1.off hB hl⟩
theorem DLaw.opn (h : DLaw W w A p st) (hok : st.Ok) (s : ByteArray) (hfit : logGood s = true → st.Fit (readB (removeS st (newN s)) s).length 4) (hsz : (readB (removeS st (newN s)) s).length ≤ 1000000000 ∧ (splB (readB (removeS st (newN s)) s)).length ≤ 100000000) (hs : s.size ≤ maxLen) (hR : opR st s = 0) :
    Calls Try.prog 12 #[.pointer (some ⟨p, 0, none⟩), .string s] w fun e w' => ∃ q A' B', e = .returned (.tuple #[.pointer (some ⟨q, 0, none⟩), .int .i64 0]) ∧ Law W w' A' B' q p (opL st s) (opS st s) ∧ Grew A A' w w' ∧ (∀ k, B' k → w.heap.size ≤ k) ∧ Chg A w w' := by
  refine (open_calls w A p st s h.1 hok hfit hsz hs).mono ?_
  rintro e w' ⟨A', hS, ⟨h0, _⟩ | ⟨_, q, B, rfl, hL, hB, hO⟩⟩
  · exact absurd hR h0
  · exact ⟨q, A', _, rfl, ⟨hS.law h, hL.tight, fun k hk hb => hO k hk hb.1, fun k hk => ⟨Nat.le_trans h.2.2.size (hB k hk.1), hk.2⟩⟩, hS.2.1, fun k hk => hB k hk.1, hS.2.2⟩
end
theorem newS_fit (c : Int) (hc : 0 ≤ c ∧ c ≤ 9223372036854775807) (n m : Nat) (hn : n ≤ maxB) (hm : m ≤ maxN) : (newS c).Fit n m := ⟨newS_ok c, by show 0 + 0 + m ≤ maxN; omega, by show 0 + 0 + n ≤ maxB; omega⟩
theorem op_new (c : Int) : opR (newS c) nA = 0 ∧ opS (newS c) nA = newS c ∧ opL (newS c) nA = ⟨nA, [], false⟩ := ⟨by kernel_rfl, by kernel_rfl, by kernel_rfl⟩
theorem op_new_read (c : Int) : readB (removeS (newS c) (newN nA)) nA = [] := by kernel_rfl
theorem DLaw.opnew {W w : World} {A : Nat → Prop} {p : Nat} {c : Int} (hc : 0 ≤ c ∧ c ≤ 9223372036854775807) (h : DLaw W w A p (newS c)) :
    Calls Try.prog 12 #[.pointer (some ⟨p, 0, none⟩), .string nA] w fun e w' => ∃ q A' B', e = .returned (.tuple #[.pointer (some ⟨q, 0, none⟩), .int .i64 0]) ∧ Law W w' A' B' q p ⟨nA, [], false⟩ (newS c) := by
  have := h.opn (newS_ok c) nA (fun _ => by rw [op_new_read]; exact newS_fit c hc _ _ (by unfold maxB; decide) (by unfold maxN; decide)) (by rw [op_new_read]; decide) nA_size (op_new c).1
  rw [(op_new c).2.1, (op_new c).2.2] at this
  exact this.mono fun e w' ⟨q, A', B', h1, h2, _⟩ => ⟨q, A', B', h1, h2⟩
def stX : DSt := ⟨[(nA, frB [120])], [], 1000, -1, false⟩
theorem x1 : lappR ⟨nA, [], false⟩ (newS 1000) [120] = 0 := by decide +kernel
theorem x2 : lappS ⟨nA, [], false⟩ (newS 1000) [120] = stX := by kernel_rfl
theorem x3 : lappL ⟨nA, [], false⟩ (newS 1000) [120] = ⟨nA, [[120]], false⟩ := by kernel_rfl
theorem x4 : crashS stX 0 (-1) = stX := by kernel_rfl
theorem x5 : opR stX nA = 0 ∧ opS stX nA = stX := ⟨by kernel_rfl, by kernel_rfl⟩
theorem x6 : opL stX nA = ⟨nA, [[120]], false⟩ := by kernel_rfl
theorem x7 : readB (removeS stX (newN nA)) nA = frB [120] ∧ (frB [120]).length = 9 := ⟨by kernel_rfl, by kernel_rfl⟩
theorem stX_ok : stX.Ok := ⟨by decide, by decide, by decide, by decide +kernel, by decide +kernel, (fun w h => by rw [List.mem_singleton.1 h]; decide), (fun _ h => by cases h)⟩
theorem stX_fit : stX.Fit 9 4 := ⟨stX_ok, by decide, by decide +kernel⟩
theorem DLaw.crash {W w : World} {A : Nat → Prop} {p : Nat} {st : DSt} (h : DLaw W w A p st) (hok : st.Ok) (keep torn : Int) :
    Calls Try.prog 22 #[.pointer (some ⟨p, 0, none⟩), .int .i64 keep, .int .i64 torn] w fun e w' => e = .returned (.tuple #[]) ∧ ∃ A', DLaw W w' A' p (crashS st keep torn) :=
  (h.1.crash hok keep torn).mono fun e w' ⟨h1, h2, h3⟩ => by
    obtain ⟨A', k⟩ := (Sp.of h.1).next (h2.mono fun k hk => hk.elim (fun g => by
      by_cases hlt : k < w.heap.size
      · exact .inl ⟨g, hlt⟩
      · exact .inr (Nat.le_of_not_lt hlt)) .inr) (h3.mono fun k hk => by
        by_cases hlt : k < w.heap.size
        · exact .inl ⟨hk, hlt⟩
        · exact .inr (Nat.le_of_not_lt hlt))
    exact ⟨h1, A', k.law h⟩
theorem New_law (W : World) (c : Int) : Calls Try.prog 9 #[.int .i64 c] W fun e w' => ∃ p A, e = .returned (.pointer (some ⟨p, 0, none⟩)) ∧ DLaw W w' A p (newS c) :=
  (New_calls W c).mono fun e w' ⟨p, h1, _, h2, h3⟩ => ⟨p, _, h1, h2.tight, fun _ hk => hk, h3⟩
set_option maxRecDepth 100000 in
set_option maxHeartbeats 16000000 in
theorem answers_calls (w : World) : Calls Try.prog 8 #[] w fun e w' => e = .returned (.bool true) ∧ Below w.heap.size w w' := by
  have HNW := Aside0.mk (New_law w 1000)
  go_enter Try.func8, Try.ntmps8
  go_wp2_with fail
  refine HNW.out.mono ?_
  rintro e w1 ⟨p, A1, rfl, hD1⟩
  have HO := Aside0.mk (hD1.opnew (by decide))
  clear hD1 HNW
  go_wp2_with fail
  refine HO.out.mono ?_
  rintro e w2 ⟨q, A2, B2, rfl, hL2⟩
  have kc : (convert 22 22 (.slice (some ⟨w2.heap.size, 0, none⟩) 1 1)).run Try.prog (w2.alloc (.cells #[.int .u8 120] 5)) = .ok (.slice (some ⟨w2.heap.size, 0, none⟩) 1 1) (w2.alloc (.cells #[.int .u8 120] 5 (1, 2))) := (bytes_const w2 [120] (by decide)).1
  have hb1 := below_alloc (Below.refl w2.heap.size w2) (.cells #[.int .u8 120] 5 (1, 2))
  have hnew := hL2.new (Nat.le_refl w2.heap.size)
  have HL3 := Aside0.mk (hL2.below hb1)
  have HCC := Aside0.mk (lapp_calls _ A2 B2 q p _ _ (some ⟨w2.heap.size, 0, none⟩) 1 [120] HL3.out.2.1 HL3.out.1.1 HL3.out.2.2.1 (fun _ => newS_fit 1000 (by decide) _ _ (by decide) (by decide)) (fun w' hc => C_block (hc.blk (blk_new w2 _) hnew) rfl (by decide)) (by decide) (by decide) (by decide) (by decide))
  rw [x1, x2, x3] at HCC
  clear hL2 hb1 HO hnew
  go_wp2_with fail
  refine HCC.out.mono ?_
  rintro e w3 ⟨rfl, A3, B3, hB3⟩
  have HL4 := Aside0.mk (hB3.law HL3.out)
  have HCR := Aside0.mk (HL4.out.1.crash stX_ok 0 (-1))
  clear hB3 HCC kc
  go_wp2_with fail
  refine HCR.out.mono ?_
  rintro e w4 ⟨rfl, A4, hD4⟩
  rw [x4] at hD4
  have HO := Aside0.mk (hD4.opn stX_ok nA (fun _ => by rw [x7.1, x7.2]; exact stX_fit) (by rw [x7.1]; decide +kernel) nA_size x5.1)
  rw [x5.2, x6] at HO
  clear hD4 HCR
  go_wp2_with fail
  refine HO.out.mono ?_
  rintro e w5 ⟨q5, A5, B5, rfl, hL5, _, _, _⟩
  have HL5 := Aside0.mk hL5
  have HR := Aside0.mk (recs_calls w5 B5 q5 p _ hL5.2.1 (by decide) (by decide))
  clear hL5 HO
  go_wp2_with fail
  refine HR.out.mono ?_
  rintro e w6 ⟨v6, rfl, hn6, hb6⟩
  obtain ⟨A6, c6, rfl, _, _⟩ := Kd.N_reads hn6
  have HB6 := Aside0.mk (HL5.out.below hb6).1.2.2
  clear hn6 hb6 HR
  go_wp2
  go_ret
  exact ⟨rfl, HB6.out⟩
end Go.Proofs.Ytipclnniaenciaa.Hand
