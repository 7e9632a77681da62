/- A disk in memory of the call's own: its calls, told by what they answer and leave. -/
import Derived.Test.YtipclnniaenciaaDiskCrash
namespace Go.Proofs.Ytipclnniaenciaa.Hand
open Go.RowKit Go.Maps Go.Proofs.YtipclnniaenciaaW.PrintWords Go.Proofs.YtipclnniaenciaaW.PrintLast Go.Proofs.YtipclnniaenciaaW.PrintMore
set_option linter.unusedVariables false
set_option linter.unusedSimpArgs false
/-! ## In whatever blocks -/
section
variable {w : World} {F : Nat → Prop} {p : Nat} {st : DSt}
theorem Dsk.app (h : Dsk w F p st) (hok : st.Ok) (s : ByteArray) (hs : s.size ≤ maxLen) (A : Option Addr) (c : Nat) (b : By) (hC : CB w A b) (hb : b.length ≤ maxB) :
    Calls Try.prog 10 #[.pointer (some ⟨p, 0, none⟩), .string s, .slice A b.length c] w fun e w' => e = .returned (.int .i64 (appendR st s b.length)) ∧ Dsk w' (fun k => F k ∨ w.heap.size ≤ k) p (appendS st s b) ∧ Chg F w w' := by
  obtain ⟨bn, bs, vl, h⟩ := h
  exact (Append_calls w F p bn bs vl st s A c b h hok hs hC hb).mono fun e w' ⟨vl', h1, h2, h3⟩ => ⟨h1, ⟨bn, bs, vl', h2⟩, h3⟩
theorem Dsk.usd (h : Dsk w F p st) (hok : st.Ok) :
    Calls Try.prog 21 #[.pointer (some ⟨p, 0, none⟩)] w fun e w' => e = .returned (.int .i64 (used st.now)) ∧ Below w.heap.size w w' := by
  obtain ⟨bn, bs, vl, h⟩ := h
  exact Used_calls w F p bn bs vl st h hok
theorem Dsk.rem (h : Dsk w F p st) (hok : st.Ok) (s : ByteArray) (hs : s.size ≤ maxLen) :
    Calls Try.prog 31 #[.pointer (some ⟨p, 0, none⟩), .string s] w fun e w' => e = .returned (.int .i64 (removeR st s)) ∧ Dsk w' (fun k => F k ∨ w.heap.size ≤ k) p (removeS st s) ∧ Chg F w w' := by
  obtain ⟨bn, bs, vl, h⟩ := h
  exact (Remove_calls w F p bn bs vl st s h hok hs).mono fun e w' ⟨vl', h1, h2, h3⟩ => ⟨h1, ⟨bn, bs, vl', h2⟩, h3⟩
theorem Dsk.ren (h : Dsk w F p st) (hok : st.Ok) (s t : ByteArray) (hs : s.size ≤ maxLen) (ht : t.size ≤ maxLen) :
    Calls Try.prog 40 #[.pointer (some ⟨p, 0, none⟩), .string s, .string t] w fun e w' => e = .returned (.int .i64 (renameR st s t)) ∧ Dsk w' (fun k => F k ∨ w.heap.size ≤ k) p (renameS st s t) ∧ Chg F w w' := by
  obtain ⟨bn, bs, vl, h⟩ := h
  exact (Rename_calls w F p bn bs vl st s t h hok hs ht).mono fun e w' ⟨vl', h1, h2, h3⟩ => ⟨h1, ⟨bn, bs, vl', h2⟩, h3⟩
theorem Dsk.read (h : Dsk w F p st) (hok : st.Ok) (s : ByteArray) (hs : s.size ≤ maxLen) :
    Calls Try.prog 17 #[.pointer (some ⟨p, 0, none⟩), .string s] w fun e w' => ∃ v, e = .returned (.tuple #[v, .int .i64 (readR st s)]) ∧ RB w' w.heap.size (fun k => w.heap.size ≤ k) v (readB st s) ∧ Below w.heap.size w w' := by
  obtain ⟨bn, bs, vl, h⟩ := h
  exact Read_calls w F p bn bs vl st s h hok hs
theorem Dsk.syn (h : Dsk w F p st) (hok : st.Ok) :
    Calls Try.prog 11 #[.pointer (some ⟨p, 0, none⟩)] w fun e w' => e = .returned (.int .i64 (doneR st)) ∧ Dsk w' (fun k => F k ∨ w.heap.size ≤ k) p (syncS st) ∧ Chg F w w' := by
  obtain ⟨bn, bs, vl, h⟩ := h
  exact (Sync_calls w F p bn bs vl st h hok).mono fun e w' ⟨bs', vl', h1, h2, h3⟩ => ⟨h1, ⟨bn, bs', vl', h2⟩, h3⟩
theorem Dsk.crash (h : Dsk w F p st) (hok : st.Ok) (keep torn : Int) :
    Calls Try.prog 22 #[.pointer (some ⟨p, 0, none⟩), .int .i64 keep, .int .i64 torn] w fun e w' => e = .returned (.tuple #[]) ∧ Dsk w' (fun k => F k ∨ w.heap.size ≤ k) p (crashS st keep torn) ∧ Chg F w w' := by
  obtain ⟨bn, bs, vl, h⟩ := h
  exact (Crash_calls w F p bn bs vl st keep torn h hok).mono fun e w' ⟨bn', bs', h1, h2, h3⟩ => ⟨h1, ⟨bn', bs', _, h2⟩, h3⟩
theorem Dsk.fus (h : Dsk w F p st) (n : Int) :
    Calls Try.prog 23 #[.pointer (some ⟨p, 0, none⟩), .int .i64 n] w fun e w' => e = .returned (.tuple #[]) ∧ Dsk w' F p (fuseS st n) ∧ Chg F w w' := by
  obtain ⟨bn, bs, vl, h⟩ := h
  exact (Fuse_calls w F p bn bs vl st n h).mono fun e w' ⟨h1, h2, h3⟩ => ⟨h1, ⟨bn, bs, vl, h2⟩, h3.mono (fun k hk => .inl (by rw [hk]; exact h.fp))⟩
end
/-! ## In the blocks from base on -/
def Dk (w : World) (base p : Nat) (st : DSt) : Prop := Dsk w (fun k => base ≤ k) p st ∧ base ≤ w.heap.size
section
variable {w w' : World} {base p : Nat} {st st' : DSt} {r : Int}
theorem Dk.below (h : Dk w base p st) (hb : Below w.heap.size w w') : Dk w' base p st := ⟨h.1.below hb, Nat.le_trans h.2 hb.size⟩
theorem Dk.mk (h : Dk w base p st) {F : Nat → Prop} (hD : Dsk w' (fun k => base ≤ k ∨ w.heap.size ≤ k) p st') (hc : Chg (fun k => base ≤ k) w w') : Dk w' base p st' ∧ Below base w w' :=
  ⟨⟨hD.mono (fun k hk => hk.elim id (fun h2 => Nat.le_trans h.2 h2)), Nat.le_trans h.2 hc.size⟩, hc.to_below (fun k hk => hk) h.2⟩
theorem Dk.app (h : Dk w base p st) (hok : st.Ok) (s : ByteArray) (hs : s.size ≤ maxLen) (A : Option Addr) (c : Nat) (b : By) (hC : CB w A b) (hb : b.length ≤ maxB) (hr : appendR st s b.length = r) (hst : appendS st s b = st') :
    Calls Try.prog 10 #[.pointer (some ⟨p, 0, none⟩), .string s, .slice A b.length c] w fun e w' => e = .returned (.int .i64 r) ∧ Dk w' base p st' ∧ Below base w w' := by
  subst hr hst
  exact (h.1.app hok s hs A c b hC hb).mono fun e w' ⟨h1, h2, h3⟩ => ⟨h1, h.mk (F := fun _ => True) h2 h3⟩
theorem Dk.usd (h : Dk w base p st) (hok : st.Ok) {n : Nat} (hn : used st.now = n) :
    Calls Try.prog 21 #[.pointer (some ⟨p, 0, none⟩)] w fun e w' => e = .returned (.int .i64 n) ∧ Dk w' base p st ∧ Below base w w' := by
  subst hn
  exact (h.1.usd hok).mono fun e w' ⟨h1, h2⟩ => ⟨h1, h.below h2, h2.mono h.2⟩
theorem Dk.rem (h : Dk w base p st) (hok : st.Ok) (s : ByteArray) (hs : s.size ≤ maxLen) (hr : removeR st s = r) (hst : removeS st s = st') :
    Calls Try.prog 31 #[.pointer (some ⟨p, 0, none⟩), .string s] w fun e w' => e = .returned (.int .i64 r) ∧ Dk w' base p st' ∧ Below base w w' := by
  subst hr hst
  exact (h.1.rem hok s hs).mono fun e w' ⟨h1, h2, h3⟩ => ⟨h1, h.mk (F := fun _ => True) h2 h3⟩
theorem Dk.ren (h : Dk w base p st) (hok : st.Ok) (s t : ByteArray) (hs : s.size ≤ maxLen) (ht : t.size ≤ maxLen) (hr : renameR st s t = r) (hst : renameS st s t = st') :
    Calls Try.prog 40 #[.pointer (some ⟨p, 0, none⟩), .string s, .string t] w fun e w' => e = .returned (.int .i64 r) ∧ Dk w' base p st' ∧ Below base w w' := by
  subst hr hst
  exact (h.1.ren hok s t hs ht).mono fun e w' ⟨h1, h2, h3⟩ => ⟨h1, h.mk (F := fun _ => True) h2 h3⟩
theorem Dk.read (h : Dk w base p st) (hok : st.Ok) (s : ByteArray) (hs : s.size ≤ maxLen) {b : By} (hr : readR st s = r) (hb : readB st s = b) :
    Calls Try.prog 17 #[.pointer (some ⟨p, 0, none⟩), .string s] w fun e w' => ∃ A c, e = .returned (.tuple #[.slice A b.length c, .int .i64 r]) ∧ CB w' A b ∧ Dk w' base p st ∧ Below base w w' := by
  subst hr hb
  refine (h.1.read hok s hs).mono fun e w' ⟨v, h1, h2, h3⟩ => ?_
  obtain ⟨A, c, rfl, _, hC⟩ := RB_slice h2
  exact ⟨A, c, h1, hC, h.below h3, h3.mono h.2⟩
theorem Dk.syn (h : Dk w base p st) (hok : st.Ok) (hr : doneR st = r) (hst : syncS st = st') :
    Calls Try.prog 11 #[.pointer (some ⟨p, 0, none⟩)] w fun e w' => e = .returned (.int .i64 r) ∧ Dk w' base p st' ∧ Below base w w' := by
  subst hr hst
  exact (h.1.syn hok).mono fun e w' ⟨h1, h2, h3⟩ => ⟨h1, h.mk (F := fun _ => True) h2 h3⟩
theorem Dk.crash (h : Dk w base p st) (hok : st.Ok) (keep torn : Int) (hst : crashS st keep torn = st') :
    Calls Try.prog 22 #[.pointer (some ⟨p, 0, none⟩), .int .i64 keep, .int .i64 torn] w fun e w' => e = .returned (.tuple #[]) ∧ Dk w' base p st' ∧ Below base w w' := by
  subst hst
  exact (h.1.crash hok keep torn).mono fun e w' ⟨h1, h2, h3⟩ => ⟨h1, h.mk (F := fun _ => True) h2 h3⟩
theorem Dk.fus (h : Dk w base p st) (n : Int) (hst : fuseS st n = st') :
    Calls Try.prog 23 #[.pointer (some ⟨p, 0, none⟩), .int .i64 n] w fun e w' => e = .returned (.tuple #[]) ∧ Dk w' base p st' ∧ Below base w w' := by
  subst hst
  exact (h.1.fus n).mono fun e w' ⟨h1, h2, h3⟩ => ⟨h1, h.mk (F := fun _ => True) (h2.mono (fun k hk => .inl hk)) h3⟩
theorem New_dk (w : World) (n : Int) :
    Calls Try.prog 9 #[.int .i64 n] w fun e w' => ∃ p, e = .returned (.pointer (some ⟨p, 0, none⟩)) ∧ Dk w' w.heap.size p (newS n) ∧ Below w.heap.size w w' :=
  (New_calls w n).mono fun e w' ⟨p, h1, _, h3, h4⟩ => ⟨p, h1, ⟨h3, h4.size⟩, h4⟩
end
end Go.Proofs.Ytipclnniaenciaa.Hand
