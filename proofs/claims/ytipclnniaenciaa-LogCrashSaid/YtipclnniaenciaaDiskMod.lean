/- A disk as plain data: files, the writes since the last Sync, and what each call answers and leaves. -/
import Derived.Test.YtipclnniaenciaaDiskMap
import Derived.Test.YtipclnniaenciaaPAx
namespace Go.Proofs.Ytipclnniaenciaa.Hand
open Go.RowKit Go.Proofs.YtipclnniaenciaaW.PrintWords
set_option linter.unusedVariables false
set_option linter.unusedSimpArgs false
abbrev By := List UInt8
abbrev Fs := List (ByteArray × By)
structure Wr where
  kind : Int
  frm : ByteArray
  onto : ByteArray
  b : By
def bytesAt (s : ByteArray) (f : Fs) : By := (look s f).getD []
def doW (f : Fs) (w : Wr) : Fs :=
  if w.kind = 0 then put w.frm (bytesAt w.frm f ++ w.b) f else if w.kind = 1 then put w.onto (bytesAt w.frm f) (del w.frm f) else if w.kind = 2 then del w.frm f else f
def used : Fs → Nat
  | [] => 0
  | p :: f => p.2.length + used f
structure DSt where
  sure : Fs
  loose : List Wr
  room : Int
  fuse : Int
  down : Bool
def DSt.now (st : DSt) : Fs := st.loose.foldl doW st.sure
def goodB (c : UInt8) : Bool := (97 ≤ c && c ≤ 122) || c == 46
def goodName (s : ByteArray) : Bool := s.data.toList.all goodB && !(s.size == 0) && decide (s.size ≤ 32)
def burnB (st : DSt) : Bool := !st.down && !(st.fuse == 0)
def burnS (st : DSt) : DSt := if st.down = true then st else if st.fuse = 0 then { st with down := true } else if 0 < st.fuse then { st with fuse := st.fuse - 1 } else st
def doneR (st : DSt) : Int := if burnB st = true then 0 else 6
def doneS (st : DSt) (w : Wr) : DSt := if burnB st = true then { burnS st with loose := st.loose ++ [w] } else burnS st
def fullB (st : DSt) (s : ByteArray) (n : Nat) : Bool := (!(look s st.now).isSome && decide (16 ≤ st.now.length)) || decide (st.room < (used st.now : Int) + n)
def appendR (st : DSt) (s : ByteArray) (n : Nat) : Int := if goodName s = false then 1 else if st.down = true then 6 else if fullB st s n = true then 5 else doneR st
def appendS (st : DSt) (s : ByteArray) (b : By) : DSt := if goodName s = false then st else if st.down = true then st else if fullB st s b.length = true then st else doneS st ⟨0, s, ⟨#[]⟩, b⟩
def renameR (st : DSt) (s t : ByteArray) : Int := if goodName s = false then 1 else if goodName t = false then 1 else if st.down = true then 6 else if (look s st.now).isSome = false then 3 else doneR st
def renameS (st : DSt) (s t : ByteArray) : DSt := if goodName s = false then st else if goodName t = false then st else if st.down = true then st else if (look s st.now).isSome = false then st else doneS st ⟨1, s, t, []⟩
def removeR (st : DSt) (s : ByteArray) : Int := if goodName s = false then 1 else if st.down = true then 6 else if (look s st.now).isSome = false then 3 else doneR st
def removeS (st : DSt) (s : ByteArray) : DSt := if goodName s = false then st else if st.down = true then st else if (look s st.now).isSome = false then st else doneS st ⟨2, s, ⟨#[]⟩, []⟩
def syncS (st : DSt) : DSt := if burnB st = true then { burnS st with sure := st.now, loose := [] } else burnS st
def readR (st : DSt) (s : ByteArray) : Int := if goodName s = false then 1 else if st.down = true then 6 else if (look s st.now).isSome = false then 3 else 0
def readB (st : DSt) (s : ByteArray) : By := if goodName s = false then [] else if st.down = true then [] else bytesAt s st.now
def keepN (st : DSt) (keep : Int) : Nat := if keep < 0 then 0 else if (st.loose.length : Int) < keep then st.loose.length else keep.toNat
def crashF (st : DSt) (keep torn : Int) : Fs :=
  match st.loose[keepN st keep]? with
  | none => (st.loose.take (keepN st keep)).foldl doW st.sure
  | some w => if w.kind = 0 ∧ 0 ≤ torn then doW ((st.loose.take (keepN st keep)).foldl doW st.sure) { w with b := w.b.take torn.toNat } else (st.loose.take (keepN st keep)).foldl doW st.sure
def crashS (st : DSt) (keep torn : Int) : DSt := ⟨crashF st keep torn, [], st.room, -1, false⟩
def roomS (st : DSt) (n : Int) : DSt := { st with room := if n < 0 then 0 else n }
def fuseS (st : DSt) (n : Int) : DSt := { st with fuse := if n < 0 then 0 else n }
/-! ## Sizes -/
def looseB (l : List Wr) : Nat := (l.map (fun w => w.b.length)).sum
def maxB : Nat := 1099511627776
def maxN : Nat := 1073741824
structure DSt.Ok (st : DSt) : Prop where
  fuse : st.fuse ≤ 9223372036854775807
  low : -1 ≤ st.fuse
  nl : st.loose.length ≤ maxN
  ns : st.sure.length ≤ maxN
  sz : used st.sure + looseB st.loose ≤ maxB
  nm : ∀ p ∈ st.sure, p.1.size ≤ 32
  nw : ∀ w ∈ st.loose, w.frm.size ≤ 32 ∧ w.onto.size ≤ 32
theorem used_cons (p : ByteArray × By) (f : Fs) : used (p :: f) = p.2.length + used f := rfl
theorem used_sub {f g : Fs} (h : f.Sublist g) : used f ≤ used g := by
  induction h with
  | slnil => exact Nat.le_refl _
  | cons _ _ ih => rw [used_cons]; omega
  | cons_cons _ _ ih => rw [used_cons, used_cons]; omega
theorem used_perm {f g : Fs} (h : f.Perm g) : used f = used g := by
  induction h with
  | nil => rfl
  | cons _ _ ih => rw [used_cons, used_cons, ih]
  | swap _ _ _ => simp only [used_cons]; omega
  | trans _ _ h1 h2 => rw [h1, h2]
theorem del_sub {α : Type} (s : ByteArray) (f : List (ByteArray × α)) : (del s f).Sublist f := List.filter_sublist
theorem used_del (s : ByteArray) (f : Fs) : used (del s f) ≤ used f := used_sub (del_sub s f)
theorem used_look (s : ByteArray) (f : Fs) : (bytesAt s f).length + used (del s f) ≤ used f := by
  unfold bytesAt
  induction f with
  | nil => exact Nat.le_refl _
  | cons p f ih =>
    rw [used_cons]
    unfold look del
    rw [List.find?_cons, List.filter_cons]
    by_cases e : p.1 = s
    · have h1 : decide (p.1 = s) = true := decide_eq_true e
      rw [h1]
      have := used_del s f
      unfold del at this
      simp
      exact this
    · have h1 : decide (p.1 = s) = false := decide_eq_false e
      rw [h1]
      simp only [Bool.not_false, if_true, used_cons]
      unfold look del at ih
      omega
theorem used_doW (f : Fs) (w : Wr) : used (doW f w) ≤ used f + w.b.length := by
  unfold doW
  split
  · unfold put
    have := used_look w.frm f
    rw [used_cons, List.length_append]
    omega
  · split
    · unfold put
      have h1 := used_look w.frm f
      have h2 := used_del w.onto (del w.frm f)
      show (bytesAt w.frm f).length + used (del w.onto (del w.frm f)) ≤ _
      omega
    · split
      · have := used_del w.frm f
        omega
      · omega
theorem len_del {α : Type} (s : ByteArray) (f : List (ByteArray × α)) : (del s f).length ≤ f.length := (del_sub s f).length_le
theorem len_doW (f : Fs) (w : Wr) : (doW f w).length ≤ f.length + 1 := by
  unfold doW put
  have h1 := len_del w.frm f
  have h2 := len_del w.onto (del w.frm f)
  repeat' split
  all_goals (try rw [List.length_cons])
  all_goals omega
theorem used_fold (l : List Wr) : ∀ f : Fs, used (l.foldl doW f) ≤ used f + looseB l := by
  induction l with
  | nil => intro f; exact Nat.le_refl _
  | cons w l ih =>
    intro f
    have h1 := ih (doW f w)
    have h2 := used_doW f w
    rw [List.foldl_cons]
    have h3 : looseB (w :: l) = w.b.length + looseB l := by simp [looseB]
    omega
theorem len_fold (l : List Wr) : ∀ f : Fs, (l.foldl doW f).length ≤ f.length + l.length := by
  induction l with
  | nil => intro f; exact Nat.le_refl _
  | cons w l ih =>
    intro f
    have h1 := ih (doW f w)
    have h2 := len_doW f w
    rw [List.foldl_cons, List.length_cons]
    omega
theorem looseB_take (l : List Wr) (n : Nat) : looseB (l.take n) ≤ looseB l := by
  induction l generalizing n with
  | nil => simp
  | cons w l ih =>
    cases n with
    | zero => simp [looseB]
    | succ n =>
      have h := ih n
      rw [List.take_succ_cons]
      simp only [looseB, List.map_cons, List.sum_cons] at h ⊢
      omega
theorem looseB_at (l : List Wr) (n : Nat) (w : Wr) (h : l[n]? = some w) : looseB (l.take n) + w.b.length ≤ looseB l := by
  induction l generalizing n with
  | nil => simp at h
  | cons x l ih =>
    cases n with
    | zero =>
      simp at h
      subst h
      simp [looseB]
    | succ n =>
      have h2 := ih n (by simpa using h)
      rw [List.take_succ_cons]
      simp only [looseB, List.map_cons, List.sum_cons] at h2 ⊢
      omega
theorem looseB_append (a b : List Wr) : looseB (a ++ b) = looseB a + looseB b := by simp [looseB]
theorem nm_del {α : Type} {n : Nat} {f : List (ByteArray × α)} (h : ∀ p ∈ f, p.1.size ≤ n) (s : ByteArray) : ∀ p ∈ del s f, p.1.size ≤ n := fun p hp => h p ((del_sub s f).mem hp)
theorem nm_put {α : Type} {n : Nat} {f : List (ByteArray × α)} (h : ∀ p ∈ f, p.1.size ≤ n) {s : ByteArray} (hs : s.size ≤ n) (x : α) : ∀ p ∈ put s x f, p.1.size ≤ n := fun p hp => by
  unfold put at hp
  rcases List.mem_cons.1 hp with rfl | hp
  · exact hs
  · exact nm_del h s p hp
theorem nm_doW {n : Nat} {f : Fs} (h : ∀ p ∈ f, p.1.size ≤ n) {w : Wr} (hw : w.frm.size ≤ n ∧ w.onto.size ≤ n) : ∀ p ∈ doW f w, p.1.size ≤ n := by
  unfold doW
  split
  · exact nm_put h hw.1 _
  · split
    · exact nm_put (nm_del h _) hw.2 _
    · split
      · exact nm_del h _
      · exact h
theorem nm_fold {n : Nat} (l : List Wr) (hl : ∀ w ∈ l, w.frm.size ≤ n ∧ w.onto.size ≤ n) : ∀ {f : Fs}, (∀ p ∈ f, p.1.size ≤ n) → ∀ p ∈ l.foldl doW f, p.1.size ≤ n := by
  induction l with
  | nil => intro f h; exact h
  | cons w l ih => intro f h; exact ih (fun x hx => hl x (List.mem_cons_of_mem _ hx)) (nm_doW h (hl w List.mem_cons_self))
theorem DSt.Ok.usedLe {st : DSt} (h : st.Ok) : used st.now ≤ maxB := Nat.le_trans (used_fold _ _) h.sz
theorem DSt.Ok.len {st : DSt} (h : st.Ok) : st.now.length ≤ 2 * maxN := by
  have := len_fold st.loose st.sure
  have h1 := h.nl
  have h2 := h.ns
  show (st.loose.foldl doW st.sure).length ≤ _
  omega
theorem DSt.Ok.names {st : DSt} (h : st.Ok) : ∀ p ∈ st.now, p.1.size ≤ 32 := nm_fold st.loose h.nw h.nm
theorem burnS_loose (st : DSt) : (burnS st).loose = st.loose ∧ (burnS st).sure = st.sure ∧ (burnS st).room = st.room := by
  unfold burnS
  split
  · exact ⟨rfl, rfl, rfl⟩
  · split
    · exact ⟨rfl, rfl, rfl⟩
    · split <;> exact ⟨rfl, rfl, rfl⟩
theorem burnS_now (st : DSt) : (burnS st).now = st.now := by
  unfold DSt.now
  rw [(burnS_loose st).1, (burnS_loose st).2.1]
theorem DSt.Ok.burn {st : DSt} (h : st.Ok) : (burnS st).Ok := by
  have h1 := burnS_loose st
  refine ⟨?_, ?_, by rw [h1.1]; exact h.nl, by rw [h1.2.1]; exact h.ns, by rw [h1.1, h1.2.1]; exact h.sz, by rw [h1.2.1]; exact h.nm, by rw [h1.1]; exact h.nw⟩
  · have h2 := h.fuse
    unfold burnS
    repeat' split
    all_goals (try simp only)
    all_goals omega
  · have h2 := h.low
    unfold burnS
    repeat' split
    all_goals (try simp only)
    all_goals omega
theorem doneS_now (st : DSt) (w : Wr) (hb : burnB st = true) : (doneS st w).now = doW st.now w := by
  unfold doneS
  rw [if_pos hb]
  show (st.loose ++ [w]).foldl doW (burnS st).sure = _
  rw [List.foldl_append, (burnS_loose st).2.1]
  rfl
theorem DSt.Ok.done {st : DSt} (h : st.Ok) {w : Wr} (hl : st.loose.length < maxN) (hs : used st.sure + looseB st.loose + w.b.length ≤ maxB) (hw : w.frm.size ≤ 32 ∧ w.onto.size ≤ 32) : (doneS st w).Ok := by
  unfold doneS
  split
  · have h1 := burnS_loose st
    have h2 := h.burn
    refine ⟨h2.fuse, h2.low, ?_, h2.ns, ?_, h2.nm, ?_⟩
    · show (st.loose ++ [w]).length ≤ _
      rw [List.length_append, List.length_singleton]
      omega
    · show used (burnS st).sure + looseB (st.loose ++ [w]) ≤ _
      rw [h1.2.1, looseB_append]
      have : looseB [w] = w.b.length := by simp [looseB]
      omega
    · intro x hx
      rcases List.mem_append.1 hx with hx | hx
      · exact h.nw x hx
      · rw [List.mem_singleton.1 hx]
        exact hw
  · exact h.burn
theorem DSt.Ok.sync {st : DSt} (h : st.Ok) (hn : st.now.length ≤ maxN) : (syncS st).Ok := by
  unfold syncS
  split
  · have h2 := h.burn
    refine ⟨h2.fuse, h2.low, Nat.zero_le _, hn, ?_, h.names, fun _ hx => by cases hx⟩
    show used st.now + looseB [] ≤ _
    have := h.usedLe
    have h3 : looseB [] = 0 := rfl
    omega
  · exact h.burn
theorem crashF_used (st : DSt) (keep torn : Int) : used (crashF st keep torn) ≤ used st.sure + looseB st.loose := by
  have h1 := used_fold (st.loose.take (keepN st keep)) st.sure
  have h2 := looseB_take st.loose (keepN st keep)
  unfold crashF
  split
  · omega
  · rename_i w hw
    have h3 := looseB_at _ _ _ hw
    split
    · have h4 := used_doW ((st.loose.take (keepN st keep)).foldl doW st.sure) { w with b := w.b.take torn.toNat }
      have h5 : (w.b.take torn.toNat).length ≤ w.b.length := by rw [List.length_take]; omega
      simp only at h4
      omega
    · omega
theorem crashF_len (st : DSt) (keep torn : Int) : (crashF st keep torn).length ≤ st.sure.length + st.loose.length := by
  have h1 := len_fold (st.loose.take (keepN st keep)) st.sure
  have h2 : (st.loose.take (keepN st keep)).length ≤ st.loose.length := by rw [List.length_take]; omega
  unfold crashF
  split
  · omega
  · rename_i w hw
    have h3 := (List.getElem?_eq_some_iff.1 hw).1
    have h6 : (st.loose.take (keepN st keep)).length = keepN st keep := by rw [List.length_take]; omega
    split
    · have h4 := len_doW ((st.loose.take (keepN st keep)).foldl doW st.sure) { w with b := w.b.take torn.toNat }
      omega
    · omega
theorem crashF_nm {st : DSt} (h : st.Ok) (keep torn : Int) : ∀ p ∈ crashF st keep torn, p.1.size ≤ 32 := by
  have h1 := nm_fold (n := 32) (st.loose.take (keepN st keep)) (fun w hw => h.nw w (List.mem_of_mem_take hw)) h.nm
  unfold crashF
  split
  · exact h1
  · rename_i w hw
    split
    · exact nm_doW h1 (w := { w with b := w.b.take torn.toNat }) (h.nw w (List.mem_of_getElem? hw))
    · exact h1
theorem DSt.Ok.crash {st : DSt} (h : st.Ok) (keep torn : Int) (hn : st.sure.length + st.loose.length ≤ maxN) : (crashS st keep torn).Ok :=
  ⟨by simp [crashS], by simp [crashS], Nat.zero_le _, Nat.le_trans (crashF_len st keep torn) hn, by show used (crashF st keep torn) + looseB [] ≤ _; have := crashF_used st keep torn; have h3 : looseB [] = 0 := rfl; have := h.sz; omega, crashF_nm h keep torn, fun _ hx => by cases hx⟩
/-! ## The name's test -/
theorem bt_data (s : ByteArray) (j : Nat) (hj : j < s.data.toList.length) : bt s (j : Int) = (s.data.toList[j].toNat : Int) := by
  have hj' : j < s.size := by simpa using hj
  rw [← bt_at s (j : Int) (by simpa using hj')]
  rfl
theorem goodB_byte (c : UInt8) : goodB c = (decide (97 ≤ (c.toNat : Int) ∧ (c.toNat : Int) ≤ 122) || decide ((c.toNat : Int) = 46)) := by
  unfold goodB
  rw [Bool.eq_iff_iff]
  simp only [Bool.or_eq_true, Bool.and_eq_true, decide_eq_true_eq, UInt8.le_iff_toNat_le, beq_iff_eq]
  have h : c = 46 ↔ c.toNat = 46 := by
    rw [← UInt8.toNat_inj]
    rfl
  rw [h]
  simp
  omega
theorem name_l0 (s : ByteArray) (hs : s.size ≤ 9223372036854775807) : ∀ (n k j : Nat), s.size - j ≤ n → n < k → j ≤ s.size →
    PA.disk_name.l0 k s (s.size : Int) (j : Int) = some ((s.data.toList.drop j).all goodB && !(s.size == 0) && decide (s.size ≤ 32)) := by
  intro n
  induction n with
  | zero =>
    intro k j hn hk hj
    obtain ⟨k, rfl⟩ : ∃ k', k = k' + 1 := ⟨k - 1, by omega⟩
    obtain rfl : j = s.size := by omega
    have hd : s.data.toList.drop s.size = [] := List.drop_eq_nil_of_le (by rw [data_length]; exact Nat.le_refl _)
    rw [PA.disk_name.l0, if_neg (by omega), hd]
    by_cases e : s.size = 0
    · have h0 : s.toList = [] := by rw [Lib.toList_data]; exact List.eq_nil_of_length_eq_zero (by rw [data_length]; exact e)
      rw [if_pos h0]
      simp [e]
    · have h0 : ¬ s.toList = [] := fun h => e (by rw [Lib.toList_data] at h; have := data_length s; rw [h] at this; exact this.symm)
      rw [if_neg h0]
      have h1 : (s.size == 0) = false := by simpa using e
      rw [h1]
      simp only [List.all_nil, Bool.not_false, Bool.true_and, Bool.and_self]
      congr 1
      rw [decide_eq_decide]
      omega
  | succ n ih =>
    intro k j hn hk hj
    by_cases hlt : j < s.size
    · obtain ⟨k, rfl⟩ : ∃ k', k = k' + 1 := ⟨k - 1, by omega⟩
      have hjl : j < s.data.toList.length := by rw [data_length]; exact hlt
      have hw : wrap64 ((j : Int) + 1) = ((j + 1 : Nat) : Int) := by rw [Go.IntWalk.wrap64_in _ (by omega)]; omega
      have ih' := ih k (j + 1) (by omega) (by omega) (by omega)
      rw [PA.disk_name.l0, if_pos (by omega), if_pos (by omega), if_pos (by omega), hw, ih', List.drop_eq_getElem_cons hjl, List.all_cons, goodB_byte, bt_data s j hjl]
      obtain ⟨c, hc⟩ : ∃ c, c = ((s.data.toList[j]).toNat : Int) := ⟨_, rfl⟩
      rw [← hc]
      by_cases h1 : c < 97
      · have hd : decide (97 ≤ c ∧ c ≤ 122) = false := decide_eq_false (by omega)
        rw [if_pos h1, hd, Bool.false_or]
        by_cases h2 : c = 46
        · rw [if_pos h2, decide_eq_true h2, Bool.true_and]
        · rw [if_neg h2, decide_eq_false h2]
          simp
      · rw [if_neg h1]
        by_cases h2 : c > 122
        · have hd : decide (97 ≤ c ∧ c ≤ 122) = false := decide_eq_false (by omega)
          rw [if_pos h2, hd, Bool.false_or]
          by_cases h3 : c = 46
          · omega
          · rw [if_neg h3, decide_eq_false h3]
            simp
        · have hd : decide (97 ≤ c ∧ c ≤ 122) = true := decide_eq_true (by omega)
          rw [if_neg h2, hd, Bool.true_or, Bool.true_and]
    · exact (by
        obtain rfl : j = s.size := by omega
        obtain ⟨k, rfl⟩ : ∃ k', k = k' + 1 := ⟨k - 1, by omega⟩
        have hd : s.data.toList.drop s.size = [] := List.drop_eq_nil_of_le (by rw [data_length]; exact Nat.le_refl _)
        rw [PA.disk_name.l0, if_neg (by omega), hd]
        by_cases e : s.size = 0
        · have h0 : s.toList = [] := by rw [Lib.toList_data]; exact List.eq_nil_of_length_eq_zero (by rw [data_length]; exact e)
          rw [if_pos h0]
          simp [e]
        · have h0 : ¬ s.toList = [] := fun h => e (by rw [Lib.toList_data] at h; have := data_length s; rw [h] at this; exact this.symm)
          rw [if_neg h0]
          have h1 : (s.size == 0) = false := by simpa using e
          rw [h1]
          simp only [List.all_nil, Bool.not_false, Bool.true_and, Bool.and_self]
          congr 1
          rw [decide_eq_decide]
          omega)
theorem name_f (s : ByteArray) (hs : s.size ≤ 9223372036854775807) : PA.disk_name.f (s.size + 1) s = some (goodName s) := by
  unfold PA.disk_name.f goodName
  have := name_l0 s hs s.size (s.size + 1) 0 (by omega) (by omega) (by omega)
  rw [List.drop_zero] at this
  exact this
theorem name_calls (s : ByteArray) (hs : s.size ≤ maxLen) (w : World) : Calls Try.prog 24 #[.string s] w fun e w' => e = .returned (.bool (goodName s)) ∧ Drawn0 w w' := PA.disk_name.calls (s.size + 1) s _ w (name_f s (by unfold maxLen at hs; omega))
end Go.Proofs.Ytipclnniaenciaa.Hand
