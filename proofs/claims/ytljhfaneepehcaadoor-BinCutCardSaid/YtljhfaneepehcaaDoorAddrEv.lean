/- What the printed library functions compute at one separating byte: strings.Split, strings.Cut; and letter, atom. -/
import Derived.Test.YtljhfaneepehcaaDoorPAx1
import Derived.Test.YtljhfaneepehcaaDoorAddrSpec
import Derived.Lib.Bytealg
namespace Go.Proofs.YtljhfaneepehcaaDoor.Addr
open Go.RowKit Go.Proofs.YtljhfaneepehcaaDoorW.PrintWords Go.Proofs.YtljhfaneepehcaaDoorW.PrintLast Go.Proofs.YtljhfaneepehcaaDoorW.PrintMore
set_option linter.unusedVariables false

theorem ev_pos {α : Type} {c : Prop} [Decidable c] {f g : Nat → Option α} {r : α} (h : c) (k : Ev f r) : Ev (fun n => if c then f n else g n) r := k.congr fun _ => if_pos h
theorem ev_neg {α : Type} {c : Prop} [Decidable c] {f g : Nat → Option α} {r : α} (h : ¬ c) (k : Ev g r) : Ev (fun n => if c then f n else g n) r := k.congr fun _ => if_neg h
theorem ev_some {α β : Type} {a : α} {f : Nat → α → Option β} {r : β} (k : Ev (fun n => f n a) r) : Ev (fun n => (some a).bind (f n)) r := Ev.bind (Ev.now a) k
theorem ev_now {α : Type} {a r : α} (h : a = r) : Ev (fun _ => some a) r := h ▸ Ev.now a

theorem letter_eq (c : UInt8) : PA.addr_letter.f (c.toNat : Int) = some (letterB c) := by
  have := all8 (p := fun c => PA.addr_letter.f (c.toNat : Int) == some (letterB c)) (by decide +kernel) c
  simpa using this
theorem atom_eq (c : UInt8) : PA.addr_atom.f (c.toNat : Int) = some (atomB c) := by
  have := all8 (p := fun c => PA.addr_atom.f (c.toNat : Int) == some (atomB c)) (by decide +kernel) c
  simpa using this

theorem index_cut {c : UInt8} {l a b : List UInt8} (h : cutB c l = some (a, b)) : Lib.indexByte l c = (a.length : Int) := by
  induction l generalizing a b with
  | nil => cases h
  | cons x l ih =>
    rw [cutB] at h
    rw [Lib.indexByte]
    by_cases e : x = c
    · rw [if_pos e] at h
      injection h with h
      injection h with h1 h2
      subst h1
      rw [if_pos (by simpa using e)]
      rfl
    · rw [if_neg e] at h
      obtain ⟨⟨a', b'⟩, h1, h2⟩ := Option.map_eq_some_iff.1 h
      injection h2 with h2 h3
      subst h2
      have := ih h1
      rw [if_neg (by simpa using e), this, if_neg (by simp), List.length_cons]
      show (a'.length : Int) + 1 = ((a'.length + 1 : Nat) : Int)
      omega
theorem index_none {c : UInt8} {l : List UInt8} (h : cutB c l = none) : Lib.indexByte l c = -1 := by
  induction l with
  | nil => rfl
  | cons x l ih =>
    rw [cutB] at h
    rw [Lib.indexByte]
    by_cases e : x = c
    · rw [if_pos e] at h
      cases h
    · rw [if_neg e, Option.map_eq_none_iff] at h
      rw [if_neg (by simpa using e), ih h]
      rfl
theorem cut_none {c : UInt8} {l : List UInt8} (h : cutB c l = none) : c ∉ l := by
  intro hm
  obtain ⟨a, b, h1, h2⟩ : ∃ a b, l = a ++ c :: b ∧ c ∉ a := by
    clear h
    induction l with
    | nil => simp at hm
    | cons x l ih =>
      by_cases e : x = c
      · subst e
        exact ⟨[], l, rfl, by simp⟩
      · obtain ⟨a, b, i1, i2⟩ := ih ((List.mem_cons.1 hm).resolve_left (fun k => e k.symm))
        refine ⟨x :: a, b, by rw [i1]; rfl, ?_⟩
        rw [List.mem_cons, not_or]
        exact ⟨fun k => e k.symm, i2⟩
  rw [h1, cut_app c a b h2] at h
  cases h
theorem parts_count (c : UInt8) (l : List UInt8) : (parts c l).length = l.count c + 1 := by
  induction l with
  | nil => rfl
  | cons x l ih =>
    obtain ⟨p, ps, h1, h2⟩ := parts_cons c x l
    rw [h2, List.count_cons]
    rw [h1, List.length_cons] at ih
    by_cases e : x = c
    · rw [if_pos e, if_pos (by simpa using e), List.length_cons, List.length_cons, ih]
    · rw [if_neg e, if_neg (by simpa using e), List.length_cons, ih]

/-! ## strings.Cut -/
theorem extract_mk (l : List UInt8) (a b : Nat) : (mk l).extract a b = mk ((l.drop a).take (b - a)) := by
  rw [← mk_list ((mk l).extract a b), list_extract, list_mk]
theorem one_eq (c : UInt8) : Hand.one ⟨#[c]⟩ = some c := rfl
theorem cut_eq (s : ByteArray) (c : UInt8) (hs : s.size < 4611686018427387904) : PA.strings_Cut.f s ⟨#[c]⟩ = some (match cutB c s.data.toList with
    | some (a, b) => (mk a, mk b, true)
    | none => (s, mk [], false)) := by
  unfold PA.strings_Cut.f PA.stringslite_Cut.f Hand.stringslite_Index.f
  rw [one_eq]
  have e1 : (⟨#[c]⟩ : ByteArray).size = 1 := rfl
  cases e : cutB c s.data.toList with
  | none =>
    simp only [Option.map_some, Option.bind_some]
    rw [index_none e, if_neg (by omega)]
    rfl
  | some p =>
    obtain ⟨a, b⟩ := p
    obtain ⟨h1, h2⟩ := cut_some e
    have hl := congrArg List.length h1
    rw [size_list, List.length_append, List.length_cons] at hl
    simp only [Option.map_some, Option.bind_some]
    have w1 : wrap64 ((a.length : Int) + ((⟨#[c]⟩ : ByteArray).size : Int)) = ((a.length + 1 : Nat) : Int) := by rw [e1]; unfold wrap64; omega
    rw [index_cut e, if_pos (by omega), if_pos (by omega), if_pos (by omega), w1, if_pos (by omega), if_pos (by omega)]
    simp only [Option.bind_some, Int.toNat_natCast]
    have x1 : s.extract 0 a.length = mk a := by
      rw [← mk_list s, extract_mk, h1]
      simp
    have x2 : s.extract (a.length + 1) s.size = mk b := by
      rw [← mk_list (s.extract (a.length + 1) s.size), list_extract, h1]
      have : a ++ c :: b = (a ++ [c]) ++ b := by simp
      rw [this, show a.length + 1 = (a ++ [c]).length from by simp, List.drop_left, List.take_of_length_le]
      rw [List.length_append, List.length_singleton]
      omega
    rw [x1, x2]

/-! ## strings.Split -/
theorem set_at {α : Type} (done : List α) (q : Nat) (z x : α) : (done ++ List.replicate (q + 1) z).set done.length x = (done ++ [x]) ++ List.replicate q z := by
  rw [List.set_append_right _ _ (Nat.le_refl _), Nat.sub_self, List.replicate_succ, List.set_cons_zero, List.append_assoc]
  rfl
theorem take_done {α : Type} (done t : List α) (x : α) : List.take (done.length + 1) ((done ++ [x]) ++ t) = done ++ [x] := by
  rw [show done.length + 1 = (done ++ [x]).length from by rw [List.length_append, List.length_singleton], List.take_left]
theorem gen_loop (c : UInt8) (n : Nat) (hn : n < 4611686018427387904) : ∀ (d : Nat) (l : List UInt8) (done : List ByteArray), l.count c = d → done.length + d = n → l.length < 4611686018427387904 →
    Ev (fun k => PA.strings_genSplit.l0 k (mk l) ⟨#[c]⟩ 0 (n : Int) (done ++ List.replicate (d + 1) (⟨#[]⟩ : ByteArray)) (done.length : Int)) (done ++ (parts c l).map mk) := by
  intro d
  induction d with
  | zero =>
    intro l done hc hd hl
    have hno : c ∉ l := List.count_eq_zero.1 hc
    have w1 : wrap64 ((done.length : Int) + 1) = ((done.length + 1 : Nat) : Int) := by unfold wrap64; omega
    refine Ev.step (f := fun _ => some (done ++ (parts c l).map mk)) (fun k => ?_) (ev_now rfl)
    simp only [PA.strings_genSplit.l0]
    rw [if_neg (by omega), if_pos (by omega), if_pos (by rw [List.length_append, List.length_replicate]; omega), w1, if_pos (by omega), if_pos (by rw [List.length_append, List.length_replicate]; omega), Int.toNat_natCast, Int.toNat_natCast, set_at, parts_no c l hno, take_done, List.map_singleton]
  | succ d ih =>
    intro l done hc hd hl
    obtain ⟨a, b, e⟩ : ∃ a b, cutB c l = some (a, b) := by
      cases e : cutB c l with
      | none =>
        have := List.count_eq_zero.2 (cut_none e)
        omega
      | some p => exact ⟨p.1, p.2, rfl⟩
    obtain ⟨h1, h2⟩ := cut_some e
    have hlen := congrArg List.length h1
    rw [List.length_append, List.length_cons] at hlen
    have hcb : b.count c = d := by
      rw [h1, List.count_append, List.count_cons_self, List.count_eq_zero.2 h2] at hc
      omega
    have e1 : (⟨#[c]⟩ : ByteArray).size = 1 := rfl
    have w0 := Aside0.mk (show wrap64 ((a.length : Int) + 0) = (a.length : Int) by unfold wrap64; omega)
    have w1 := Aside0.mk (show wrap64 ((a.length : Int) + ((⟨#[c]⟩ : ByteArray).size : Int)) = ((a.length + 1 : Nat) : Int) by rw [e1]; unfold wrap64; omega)
    have w2 := Aside0.mk (show wrap64 ((done.length : Int) + 1) = ((done.length + 1 : Nat) : Int) by unfold wrap64; omega)
    have x1 : (mk l).extract 0 a.length = mk a := by
      rw [extract_mk, h1]
      simp
    have x2 : (mk l).extract (a.length + 1) (mk l).size = mk b := by
      rw [extract_mk, h1]
      have : a ++ c :: b = (a ++ [c]) ++ b := by simp
      rw [this, show a.length + 1 = (a ++ [c]).length from by simp, List.drop_left, List.take_of_length_le]
      rw [mk_size]
      simp
      omega
    refine Ev.step (f := fun k => PA.strings_genSplit.l0 k (mk b) ⟨#[c]⟩ 0 (n : Int) ((done ++ [mk a]) ++ List.replicate (d + 1) (⟨#[]⟩ : ByteArray)) ((done ++ [mk a]).length : Int)) (fun k => ?_) ?_
    · simp only [PA.strings_genSplit.l0]
      unfold Hand.strings_Index.f
      rw [if_pos (by omega), one_eq]
      simp only [Option.map_some, Option.bind_some, list_mk]
      rw [index_cut e, if_neg (by omega), w0.out, if_pos (by omega), if_pos (by rw [mk_size]; omega), if_pos (by omega), if_pos (by rw [List.length_append, List.length_replicate]; omega), w1.out, if_pos (by omega), if_pos (by rw [mk_size]; omega), w2.out, Int.toNat_natCast, Int.toNat_natCast, Int.toNat_natCast, set_at, x1, x2, List.length_append, List.length_singleton]
    · have := ih b (done ++ [mk a]) hcb (by rw [List.length_append, List.length_singleton]; omega) (by omega)
      rw [h1, parts_app c a b h2, List.map_cons]
      rw [List.append_assoc done [mk a] ((parts c b).map mk)] at this
      exact this
theorem split_ev (s : ByteArray) (c : UInt8) (hs : s.size < 1000000000000) : Ev (fun k => PA.strings_Split.f k s ⟨#[c]⟩) ((parts c s.data.toList).map mk) := by
  have hcount : s.data.toList.count c ≤ s.size := by
    have := List.count_le_length (a := c) (l := s.data.toList)
    rw [size_list] at this
    exact this
  have hg : Ev (fun k => PA.strings_genSplit.f k s ⟨#[c]⟩ 0 (-1)) ((parts c s.data.toList).map mk) := by
    unfold PA.strings_genSplit.f
    refine ev_neg (by omega) (ev_neg (by rw [Lib.toList_data]; simp) (ev_pos (by omega) ?_))
    have hc : Hand.strings_Count.f s ⟨#[c]⟩ = some ((s.data.toList.count c : Nat) : Int) := by
      unfold Hand.strings_Count.f
      rw [one_eq]
      rfl
    rw [hc]
    refine ev_some ?_
    have w1 : wrap64 (((s.data.toList.count c : Nat) : Int) + 1) = ((s.data.toList.count c + 1 : Nat) : Int) := by unfold wrap64; omega
    have w2 : wrap64 ((s.size : Int) + 1) = ((s.size + 1 : Nat) : Int) := by unfold wrap64; omega
    have w3 : mn ((s.data.toList.count c + 1 : Nat) : Int) ((s.size + 1 : Nat) : Int) = ((s.data.toList.count c + 1 : Nat) : Int) := by unfold mn; split <;> omega
    have w4 : wrap64 (((s.data.toList.count c + 1 : Nat) : Int) - 1) = ((s.data.toList.count c : Nat) : Int) := by unfold wrap64; omega
    refine Ev.step (f := fun k => PA.strings_genSplit.l0 k (mk s.data.toList) ⟨#[c]⟩ 0 ((s.data.toList.count c : Nat) : Int) ([] ++ List.replicate (s.data.toList.count c + 1) (⟨#[]⟩ : ByteArray)) ((([] : List ByteArray).length : Nat) : Int)) (fun k => ?_) ?_
    · simp only [PA.strings_genSplit.j0]
      rw [w1, w2, w3, w4, if_pos (by omega), if_pos (by omega), Int.toNat_natCast, mk_list]
      rfl
    · have := gen_loop c (s.data.toList.count c) (by omega) (s.data.toList.count c) s.data.toList [] rfl (by simp) (by rw [size_list]; omega)
      rw [List.nil_append] at this ⊢
      exact this
  unfold PA.strings_Split.f
  exact Ev.bind hg (ev_now rfl)
end Go.Proofs.YtljhfaneepehcaaDoor.Addr
