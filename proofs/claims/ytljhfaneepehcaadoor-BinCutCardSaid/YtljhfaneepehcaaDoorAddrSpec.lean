/- Mailboxes, domains and paths, as plain functions on lists of bytes: what the program's functions and the document's are to compute. -/
import Derived.Lib.Bytes
import Derived.Lib.Strings
namespace Go.Proofs.YtljhfaneepehcaaDoor.Addr
set_option linter.unusedVariables false

def mk (l : List UInt8) : ByteArray := ⟨l.toArray⟩
theorem list_mk (l : List UInt8) : (mk l).data.toList = l := by simp [mk]
theorem mk_list (s : ByteArray) : mk s.data.toList = s := by
  apply ByteArray.ext
  simp [mk]
theorem mk_size (l : List UInt8) : (mk l).size = l.length := by
  show l.toArray.size = _
  simp
theorem size_list (s : ByteArray) : s.data.toList.length = s.size := by rw [Array.length_toList]; rfl
theorem mk_inj {a b : List UInt8} (h : mk a = mk b) : a = b := by
  have := congrArg (fun s : ByteArray => s.data.toList) h
  simpa [list_mk] using this
theorem mk_app (a b : List UInt8) : mk a ++ mk b = mk (a ++ b) := by
  apply ByteArray.ext
  rw [ByteArray.data_append]
  apply Array.toList_inj.1
  simp [mk]
theorem list_app (a b : ByteArray) : (a ++ b).data.toList = a.data.toList ++ b.data.toList := by rw [ByteArray.data_append]; simp
theorem list_extract (s : ByteArray) (a b : Nat) : (s.extract a b).data.toList = (s.data.toList.drop a).take (b - a) := by
  rw [ByteArray.data_extract]
  simp [List.extract_eq_take_drop]

/-! ## bytes -/
def letterB (c : UInt8) : Bool := (decide (97 ≤ c) && decide (c ≤ 122)) || (decide (65 ≤ c) && decide (c ≤ 90)) || (decide (48 ≤ c) && decide (c ≤ 57))
def marks : List UInt8 := [33, 35, 36, 37, 38, 39, 42, 43, 45, 47, 61, 63, 94, 95, 96, 123, 124, 125, 126]
def atomB (c : UInt8) : Bool := letterB c || decide (c ∈ marks)
def innerB (c : UInt8) : Bool := letterB c || c == 45
def lowerB (c : UInt8) : UInt8 := if decide (65 ≤ c) && decide (c ≤ 90) then c + 32 else c
def upperB (c : UInt8) : UInt8 := if decide (97 ≤ c) && decide (c ≤ 122) then c - 32 else c

/-! ## parts -/
def parts (c : UInt8) : List UInt8 → List (List UInt8)
  | [] => [[]]
  | x :: l => if x = c then [] :: parts c l else ((parts c l).head?.getD [] |> fun p => x :: p) :: (parts c l).tail
theorem parts_ne (c : UInt8) (l : List UInt8) : parts c l ≠ [] := by
  cases l with
  | nil => simp [parts]
  | cons x l => unfold parts; split <;> simp
theorem parts_cons (c x : UInt8) (l : List UInt8) : ∃ p ps, parts c l = p :: ps ∧ parts c (x :: l) = if x = c then [] :: p :: ps else (x :: p) :: ps := by
  obtain ⟨p, ps, h⟩ := List.exists_cons_of_ne_nil (parts_ne c l)
  refine ⟨p, ps, h, ?_⟩
  rw [parts, h]
  rfl
theorem parts_no (c : UInt8) (l : List UInt8) (h : c ∉ l) : parts c l = [l] := by
  induction l with
  | nil => rfl
  | cons x l ih =>
    rw [List.mem_cons, not_or] at h
    rw [parts, ih h.2, if_neg (fun e => h.1 e.symm)]
    rfl
theorem parts_app (c : UInt8) (a b : List UInt8) (h : c ∉ a) : parts c (a ++ c :: b) = a :: parts c b := by
  induction a with
  | nil => rw [List.nil_append, parts, if_pos rfl]
  | cons x a ih =>
    rw [List.mem_cons, not_or] at h
    rw [List.cons_append, parts, ih h.2, if_neg (fun e => h.1 e.symm)]
    rfl
theorem parts_snoc (c x : UInt8) (l : List UInt8) : parts c (l ++ [x]) = if x = c then parts c l ++ [[]] else (parts c l).dropLast ++ [((parts c l).getLast?.getD []) ++ [x]] := by
  induction l with
  | nil =>
    rw [List.nil_append]
    simp only [parts]
    split <;> simp
  | cons y l ih =>
    obtain ⟨p, ps, h1, h2⟩ := parts_cons c y l
    obtain ⟨p', ps', h1', h2'⟩ := parts_cons c y (l ++ [x])
    rw [List.cons_append, h2', h2]
    rw [h1, h1'] at ih
    by_cases e : x = c
    · rw [if_pos e] at ih ⊢
      have e1 : p' = p := by simpa using congrArg List.head? ih
      have e2 : ps' = ps ++ [[]] := by simpa using congrArg List.tail ih
      rw [e1, e2]
      split <;> simp
    · rw [if_neg e] at ih ⊢
      cases ps with
      | nil =>
        simp at ih
        obtain ⟨rfl, rfl⟩ := ih
        split <;> simp
      | cons q qs =>
        simp only [List.dropLast_cons_cons, List.getLast?_cons_cons, List.cons_append] at ih
        injection ih with i1 i2
        subst i1
        rw [i2]
        split <;> simp [List.dropLast_cons_cons, List.getLast?_cons_cons]
theorem parts_map (c : UInt8) (f : UInt8 → UInt8) (hf : ∀ x, f x = c ↔ x = c) (l : List UInt8) : parts c (l.map f) = (parts c l).map (List.map f) := by
  induction l with
  | nil => rfl
  | cons x l ih =>
    rw [List.map_cons, parts, parts, ih]
    obtain ⟨p, ps, h⟩ := List.exists_cons_of_ne_nil (parts_ne c l)
    rw [h]
    by_cases e : x = c
    · rw [if_pos e, if_pos ((hf x).2 e)]
      rfl
    · rw [if_neg e, if_neg (fun k => e ((hf x).1 k))]
      rfl
theorem mem_parts (c : UInt8) (l : List UInt8) (x : UInt8) (h : x ∈ l) : x = c ∨ ∃ p ∈ parts c l, x ∈ p := by
  induction l with
  | nil => simp at h
  | cons y l ih =>
    obtain ⟨p, ps, h1, h2⟩ := parts_cons c y l
    rw [h2]
    rcases List.mem_cons.1 h with rfl | h
    · by_cases e : x = c
      · exact .inl e
      · rw [if_neg e]
        exact .inr ⟨x :: p, List.mem_cons_self, List.mem_cons_self⟩
    · rcases ih h with e | ⟨q, hq, hx⟩
      · exact .inl e
      · rw [h1] at hq
        refine .inr ?_
        split
        · exact ⟨q, List.mem_cons_of_mem _ hq, hx⟩
        · rcases List.mem_cons.1 hq with rfl | hq
          · exact ⟨_, List.mem_cons_self, List.mem_cons_of_mem _ hx⟩
          · exact ⟨q, List.mem_cons_of_mem _ hq, hx⟩

/-! ## local parts, labels, domains -/
def localP (p : List UInt8) : Bool := !p.isEmpty && p.all atomB
def localL (l : List UInt8) : Bool := decide (l.length ≤ 64) && (parts 46 l).all localP
def labelL (p : List UInt8) : Bool := decide (p.length ≤ 63) && !p.isEmpty && p.all innerB && p.head? != some 45 && p.getLast? != some 45
def domainL (l : List UInt8) : Bool := decide (l.length ≤ 255) && (parts 46 l).all labelL
theorem local_mem (l : List UInt8) (h : localL l = true) (x : UInt8) (hx : x ∈ l) : x = 46 ∨ atomB x = true := by
  unfold localL at h
  rw [Bool.and_eq_true, List.all_eq_true] at h
  rcases mem_parts 46 l x hx with e | ⟨p, hp, hx⟩
  · exact .inl e
  · have := h.2 p hp
    unfold localP at this
    rw [Bool.and_eq_true, List.all_eq_true] at this
    exact .inr (this.2 x hx)
theorem domain_mem (l : List UInt8) (h : domainL l = true) (x : UInt8) (hx : x ∈ l) : x = 46 ∨ innerB x = true := by
  unfold domainL at h
  rw [Bool.and_eq_true, List.all_eq_true] at h
  rcases mem_parts 46 l x hx with e | ⟨p, hp, hx⟩
  · exact .inl e
  · have := h.2 p hp
    unfold labelL at this
    simp only [Bool.and_eq_true, List.all_eq_true] at this
    exact .inr (this.1.1.2 x hx)
theorem local_ne (l : List UInt8) (h : localL l = true) : l ≠ [] := by
  rintro rfl
  exact absurd h (by decide)
theorem domain_ne (l : List UInt8) (h : domainL l = true) : l ≠ [] := by
  rintro rfl
  exact absurd h (by decide)
theorem no_local (l : List UInt8) (h : localL l = true) (c : UInt8) (h1 : c ≠ 46) (h2 : atomB c = false) : c ∉ l := fun hx => by
  rcases local_mem l h c hx with e | e
  · exact h1 e
  · rw [h2] at e
    cases e
theorem no_domain (l : List UInt8) (h : domainL l = true) (c : UInt8) (h1 : c ≠ 46) (h2 : innerB c = false) : c ∉ l := fun hx => by
  rcases domain_mem l h c hx with e | e
  · exact h1 e
  · rw [h2] at e
    cases e

/-! ## small letters -/
theorem lower_lt (x : UInt8) : (65 ≤ x ∧ x ≤ 90 ∧ (lowerB x).toNat = x.toNat + 32) ∨ (¬ (65 ≤ x ∧ x ≤ 90) ∧ lowerB x = x) := by
  unfold lowerB
  by_cases h : 65 ≤ x ∧ x ≤ 90
  · left
    refine ⟨h.1, h.2, ?_⟩
    rw [if_pos (by simp [h.1, h.2])]
    have h1 : x.toNat ≤ 90 := h.2
    rw [UInt8.toNat_add]
    have : (32 : UInt8).toNat = 32 := rfl
    omega
  · right
    refine ⟨h, if_neg ?_⟩
    simpa using h
theorem all8 {p : UInt8 → Bool} (h : (List.range 256).all (fun n => p n.toUInt8) = true) (x : UInt8) : p x = true := by
  have := List.all_eq_true.1 h x.toNat (List.mem_range.2 x.toNat_lt)
  simpa using this
theorem lower_lower (x : UInt8) : lowerB (lowerB x) = lowerB x := by
  have := all8 (p := fun x => lowerB (lowerB x) == lowerB x) (by decide +kernel) x
  simpa using this
theorem lower_upper (x : UInt8) : lowerB (upperB x) = lowerB x := by
  have := all8 (p := fun x => lowerB (upperB x) == lowerB x) (by decide +kernel) x
  simpa using this
theorem inner_lower (x : UInt8) : innerB (lowerB x) = innerB x := by
  have := all8 (p := fun x => innerB (lowerB x) == innerB x) (by decide +kernel) x
  simpa using this
theorem inner_upper (x : UInt8) : innerB (upperB x) = innerB x := by
  have := all8 (p := fun x => innerB (upperB x) == innerB x) (by decide +kernel) x
  simpa using this
theorem lower_dot (x : UInt8) : lowerB x = 46 ↔ x = 46 := by
  have := all8 (p := fun x => (lowerB x == 46) == (x == 46)) (by decide +kernel) x
  rw [beq_iff_eq, Bool.eq_iff_iff] at this
  simpa using this
theorem lower_dash (x : UInt8) : lowerB x = 45 ↔ x = 45 := by
  have := all8 (p := fun x => (lowerB x == 45) == (x == 45)) (by decide +kernel) x
  rw [beq_iff_eq, Bool.eq_iff_iff] at this
  simpa using this
theorem upper_dot (x : UInt8) : upperB x = 46 ↔ x = 46 := by
  have := all8 (p := fun x => (upperB x == 46) == (x == 46)) (by decide +kernel) x
  rw [beq_iff_eq, Bool.eq_iff_iff] at this
  simpa using this
theorem upper_dash (x : UInt8) : upperB x = 45 ↔ x = 45 := by
  have := all8 (p := fun x => (upperB x == 45) == (x == 45)) (by decide +kernel) x
  rw [beq_iff_eq, Bool.eq_iff_iff] at this
  simpa using this
def lowerL (l : List UInt8) : List UInt8 := l.map lowerB
def upperL (l : List UInt8) : List UInt8 := l.map upperB
theorem lowerL_twice (l : List UInt8) : lowerL (lowerL l) = lowerL l := by
  unfold lowerL
  rw [List.map_map]
  exact List.map_congr_left fun x _ => lower_lower x
theorem lowerL_upperL (l : List UInt8) : lowerL (upperL l) = lowerL l := by
  unfold lowerL upperL
  rw [List.map_map]
  exact List.map_congr_left fun x _ => lower_upper x
theorem label_map (f : UInt8 → UInt8) (h1 : ∀ x, innerB (f x) = innerB x) (h2 : ∀ x, f x = 45 ↔ x = 45) (p : List UInt8) : labelL (p.map f) = labelL p := by
  have e1 : ∀ o : Option UInt8, (o.map f != some 45) = (o != some 45) := by
    intro o
    cases o with
    | none => rfl
    | some x =>
      rw [Option.map_some, Bool.eq_iff_iff]
      simp [h2]
  unfold labelL
  rw [List.length_map, List.head?_map, List.getLast?_map, e1, e1, List.all_map, show (innerB ∘ f) = innerB from funext h1]
  simp
theorem domain_map (f : UInt8 → UInt8) (h1 : ∀ x, innerB (f x) = innerB x) (h2 : ∀ x, f x = 45 ↔ x = 45) (h3 : ∀ x, f x = 46 ↔ x = 46) (l : List UInt8) : domainL (l.map f) = domainL l := by
  unfold domainL
  rw [List.length_map, parts_map 46 f h3, List.all_map, show (labelL ∘ List.map f) = labelL from funext (label_map f h1 h2)]
theorem domain_lower (l : List UInt8) : domainL (lowerL l) = domainL l := domain_map lowerB inner_lower lower_dash lower_dot l
theorem domain_upper (l : List UInt8) : domainL (upperL l) = domainL l := domain_map upperB inner_upper upper_dash upper_dot l

/-! ## where a byte stands first -/
def cutB (c : UInt8) : List UInt8 → Option (List UInt8 × List UInt8)
  | [] => none
  | x :: l => if x = c then some ([], l) else (cutB c l).map fun p => (x :: p.1, p.2)
theorem cut_no (c : UInt8) (l : List UInt8) (h : c ∉ l) : cutB c l = none := by
  induction l with
  | nil => rfl
  | cons x l ih =>
    rw [List.mem_cons, not_or] at h
    rw [cutB, ih h.2, if_neg (fun e => h.1 e.symm)]
    rfl
theorem cut_app (c : UInt8) (a b : List UInt8) (h : c ∉ a) : cutB c (a ++ c :: b) = some (a, b) := by
  induction a with
  | nil => rw [List.nil_append, cutB, if_pos rfl]
  | cons x a ih =>
    rw [List.mem_cons, not_or] at h
    rw [List.cons_append, cutB, ih h.2, if_neg (fun e => h.1 e.symm)]
    rfl
theorem cut_some {c : UInt8} {l a b : List UInt8} (h : cutB c l = some (a, b)) : l = a ++ c :: b ∧ c ∉ a := by
  induction l generalizing a b with
  | nil => cases h
  | cons x l ih =>
    rw [cutB] at h
    by_cases e : x = c
    · rw [if_pos e] at h
      injection h with h
      injection h with h1 h2
      subst h1 h2 e
      exact ⟨rfl, by simp⟩
    · rw [if_neg e] at h
      obtain ⟨⟨a', b'⟩, h1, h2⟩ := Option.map_eq_some_iff.1 h
      injection h2 with h2 h3
      subst h2 h3
      obtain ⟨i1, i2⟩ := ih h1
      refine ⟨by rw [i1]; rfl, ?_⟩
      rw [List.mem_cons, not_or]
      exact ⟨fun k => e k.symm, i2⟩

/-! ## mailboxes, routes, paths -/
def splitL (l : List UInt8) : Option (List UInt8 × List UInt8) :=
  match cutB 64 l with
  | some (a, b) => if localL a && domainL b then some (a, b) else none
  | none => none
def canonL (l : List UInt8) : Option (List UInt8) := (splitL l).map fun p => p.1 ++ [64] ++ lowerL p.2
def hopOk (a : List UInt8) : Bool := a.head? == some 64 && domainL (a.drop 1)
def routeL (l : List UInt8) : Option (List UInt8) :=
  if l.head? = some 64 then
    match cutB 58 l with
    | some (list, rest) => if (parts 44 list).all hopOk then some rest else none
    | none => none
  else some l
def pathL (l : List UInt8) : Option (List UInt8) :=
  if l = [60, 62] then some []
  else if l.length < 2 ∨ l.head? ≠ some 60 ∨ l.getLast? ≠ some 62 then none
  else (routeL ((l.drop 1).dropLast)).bind canonL
theorem split_some {l a b : List UInt8} (h : splitL l = some (a, b)) : l = a ++ 64 :: b ∧ localL a = true ∧ domainL b = true := by
  unfold splitL at h
  split at h
  · next a' b' hc =>
    split at h
    · next hd =>
      injection h with h
      injection h with h1 h2
      subst h1 h2
      rw [Bool.and_eq_true] at hd
      exact ⟨(cut_some hc).1, hd.1, hd.2⟩
    · cases h
  · cases h
theorem split_mk {a b : List UInt8} (ha : localL a = true) (hb : domainL b = true) : splitL (a ++ 64 :: b) = some (a, b) := by
  unfold splitL
  rw [cut_app 64 a b (no_local a ha 64 (by decide) (by decide))]
  show (if (localL a && domainL b) = true then some (a, b) else none) = some (a, b)
  rw [ha, hb]
  rfl
/-- A mailbox of two texts: it may be if both may. -/
theorem split_two (a b : List UInt8) : splitL (a ++ 64 :: b) = if localL a && domainL b then some (a, b) else none := by
  by_cases h : localL a = true ∧ domainL b = true
  · rw [split_mk h.1 h.2, h.1, h.2]
    rfl
  · rw [if_neg (by simpa using h)]
    cases e : splitL (a ++ 64 :: b) with
    | none => rfl
    | some p =>
      obtain ⟨a', b'⟩ := p
      obtain ⟨h1, h2, h3⟩ := split_some e
      exfalso
      have n1 := no_local a' h2 64 (by decide) (by decide)
      have n2 := no_domain b' h3 64 (by decide) (by decide)
      rcases List.append_eq_append_iff.1 h1 with ⟨m, e1, e2⟩ | ⟨m, e1, e2⟩
      · cases m with
        | nil =>
          rw [List.append_nil] at e1
          rw [List.nil_append] at e2
          injection e2 with _ e2
          subst e1 e2
          exact h ⟨h2, h3⟩
        | cons x m =>
          rw [List.cons_append] at e2
          injection e2 with e2 _
          exact n1 (by rw [e1, ← e2]; simp)
      · cases m with
        | nil =>
          rw [List.append_nil] at e1
          rw [List.nil_append] at e2
          injection e2 with _ e2
          subst e1 e2
          exact h ⟨h2, h3⟩
        | cons x m =>
          rw [List.cons_append] at e2
          injection e2 with _ e2
          exact n2 (by rw [e2]; simp)
theorem canon_two (a b : List UInt8) : canonL (a ++ 64 :: b) = if localL a && domainL b then some (a ++ 64 :: lowerL b) else none := by
  unfold canonL
  rw [split_two]
  split <;> simp
theorem route_plain {l : List UInt8} (h : l.head? ≠ some 64) : routeL l = some l := by unfold routeL; rw [if_neg h]
theorem local_head (a b : List UInt8) (h : localL a = true) : (a ++ b).head? ≠ some 64 := by
  cases a with
  | nil => exact absurd rfl (local_ne _ h)
  | cons x a =>
    rw [List.cons_append, List.head?_cons]
    intro e
    injection e with e
    exact no_local _ h 64 (by decide) (by decide) (by rw [e]; exact List.mem_cons_self)
theorem path_angle (l : List UInt8) (h : l ≠ []) : pathL (60 :: (l ++ [62])) = (routeL l).bind canonL := by
  unfold pathL
  rw [if_neg ?_, if_neg ?_]
  · simp
  · simp
    cases l with
    | nil => exact absurd rfl h
    | cons x l => simp [List.getLast?_cons, List.getLast?_append]
  · intro e
    injection e with _ e
    cases l with
    | nil => exact h rfl
    | cons x l =>
      have := congrArg List.length e
      simp at this
theorem path_empty : pathL [60, 62] = some [] := rfl
end Go.Proofs.YtljhfaneepehcaaDoor.Addr
