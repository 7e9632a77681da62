/- How an argument that is read as data is an element of a kind: whole numbers, bools, strings, slices and structs of these; with what the rows' own weights bound. -/
import Derived.Test.YtebmhjiogomheaaWMore
import Derived.Test.YtebmhjiogomheaaWSized
import Derived.SizedLaws
import Derived.ChangeArms
import Derived.DataReads
import Derived.Deep.Slices
namespace Go.Proofs.Ytebmhjiogomheaa.Args
open Go.RowKit Go.Proofs.YtebmhjiogomheaaW.PrintWords Go.Proofs.YtebmhjiogomheaaW.PrintLast Go.Proofs.YtebmhjiogomheaaW.PrintMore
set_option linter.unusedVariables false

/-- What is read at type t is an element of K, of which G holds. -/
def Rd {α : Type} (P : Program) (t : TypeId) (K : Kd α) (G : α → Prop) : Prop :=
  ∀ (H : Type) (enc : TypeId × Value → H) (w : World) (held : Bool) (fuel : Nat) (cs : List Value) (d : DataW H) (ps : List MemPlace),
    DataW.trod enc P w 0 (fun _ => true) held fuel t cs = some (d, ps) → (∀ n ∈ d.weights P t, n ≤ reachBytes) → ∃ a : α, K.K w a cs ∧ G a
theorem rd_int {P : Program} {t : TypeId} {k : IntKind} (ht : P.underlying t = some (.int k)) : Rd P t (Kd.int k) (fun n => (Lit.int k n).wf = true) := by
  intro H enc w held fuel cs d ps h _
  obtain ⟨n, rfl, _, hw⟩ := DataW.trod_int ht h
  exact ⟨n, rfl, hw⟩
theorem rd_bool {P : Program} {t : TypeId} (ht : P.underlying t = some .bool) : Rd P t Kd.bool (fun _ => True) := by
  intro H enc w held fuel cs d ps h _
  obtain ⟨n, rfl, _⟩ := DataW.trod_bool ht h
  exact ⟨n, rfl, trivial⟩
theorem rd_string {P : Program} {t : TypeId} (ht : P.underlying t = some .string) : Rd P t Kd.string (fun s => s.size ≤ 140737488351232) := by
  intro H enc w held fuel cs d ps h hz
  obtain ⟨s, rfl, hx, _⟩ := DataW.trod_string ht h
  injection hx with hx _
  subst hx
  refine ⟨s, rfl, ?_⟩
  have := hz s.data.toList.length (by simp [DataW.weights])
  rw [Array.length_toList] at this
  exact this
theorem weightsAll_mem {H : Type} {P : Program} {e : TypeId} : ∀ {l : List (DataW H)} {d : DataW H}, d ∈ l → ∀ n ∈ d.weights P e, n ∈ DataW.weightsAll P e l
  | d0 :: l, d, hd, n, hn => by
    simp only [DataW.weightsAll, List.mem_append]
    rcases List.mem_cons.1 hd with rfl | hd
    · exact .inl hn
    · exact .inr (weightsAll_mem hd n hn)
theorem rd_slice {α : Type} {P : Program} {t e B : Nat} {K : Kd α} {G : α → Prop} (ht : P.underlying t = some (.slice e)) (hc : P.cellsOf e = K.sz) (hB : P.bytesOf e = B) (hr : Rd P e K G) :
    Rd P t (Kd.slice e K) (fun l => l.length * B ≤ 140737488351232 ∧ ∀ a ∈ l, G a) := by
  intro H enc w held fuel cs d ps h hz
  rcases DataW.trod_slice ht h with ⟨rfl, _⟩ | ⟨a, len, cap, elems, rest, n, _, rfl, hx, _, hl, hm, hlen, hel, _, _⟩
  · exact ⟨[], ⟨none, 0, rfl, Nat.le_refl _, Kd.C_nil _ _⟩, by simp, fun a h => by cases h⟩
  · injection hx with hd _
    subst hd
    have hzl := hz ((elems.map (·.1)).length * B + (rest.map (·.1)).length * B) (by rw [← hB, ← Nat.add_mul]; simp [DataW.weights, ht])
    have hone : ∀ i, i < len → ∃ x : α, ∃ cs', w.cells? 0 (a.add (i * P.cellsOf e)) (P.cellsOf e) = some cs' ∧ K.K w x cs' ∧ G x := by
      intro i hi
      have h1 := hel i hi
      rw [List.getElem?_eq_getElem (by omega : i < elems.length)] at h1
      obtain ⟨cs', hcs, htr⟩ := Option.bind_eq_some_iff.1 h1
      obtain ⟨x, hK, hG⟩ := hr H enc w held n cs' elems[i].1 elems[i].2 htr (fun q hq => hz q (by
        simp only [DataW.weights, ht, List.mem_cons, List.mem_append]
        exact .inr (.inl (weightsAll_mem (List.mem_map.2 ⟨elems[i], List.getElem_mem _, rfl⟩) q hq))))
      exact ⟨x, cs', hcs, hK, hG⟩
    rcases Nat.eq_zero_or_pos len with h0 | h0
    · subst h0
      exact ⟨[], ⟨some a, cap, rfl, Nat.zero_le _, rfl, by simp, fun h => absurd h (Nat.lt_irrefl 0)⟩, by simp, fun a h => by cases h⟩
    obtain ⟨inh, _⟩ := hone 0 h0
    haveI : Inhabited α := ⟨inh⟩
    obtain ⟨f, hf⟩ := Go.Deep.choose_lt hone
    have hfl : ((List.range len).map f).length = len := by rw [List.length_map, List.length_range]
    refine ⟨(List.range len).map f, ⟨some a, cap, by rw [hfl], by rw [hfl]; exact hl, ?_⟩, ?_, ?_⟩
    · rw [hfl]
      refine ⟨hfl, by unfold maxLen at hm; omega, fun _ => ⟨a, rfl, fun j p hj => ?_⟩⟩
      have hjl : j < len := by
        have := (List.getElem?_eq_some_iff.1 hj).1
        rwa [hfl] at this
      have hp : f j = p := by
        rw [List.getElem?_map, List.getElem?_range hjl] at hj
        exact Option.some.inj hj
      obtain ⟨cs', hcs, hK, _⟩ := hf j hjl
      rw [hp] at hK
      obtain ⟨_, hcl, hcell⟩ := World.cells?_some hcs
      refine ⟨cs', by rw [hcl, hc], hK, fun i u hi => ?_⟩
      have hil : i < P.cellsOf e := by
        have := (List.getElem?_eq_some_iff.1 hi).1
        omega
      rw [← hc, ← Go.Deep.add_add, hcell i hil, hi]
    · rw [hfl]
      rw [List.length_map, hlen] at hzl
      have : reachBytes = 140737488351232 := rfl
      omega
    · intro x hx
      obtain ⟨i, hi, rfl⟩ := List.mem_map.1 hx
      exact (hf i (List.mem_range.1 hi)).choose_spec.2.2

/-- The fields of a struct, from one on. -/
def RdF {α : Type} (P : Program) (off : Nat) (fs : List Field) (K : Kd α) (G : α → Prop) : Prop :=
  ∀ (H : Type) (enc : TypeId × Value → H) (w : World) (held : Bool) (n : Nat) (cs : List Value) (xs : List (DataW H × List MemPlace)), cs.length = off + K.sz → xs.length = fs.length →
    (∀ (i : Nat) (f : Field), fs[i]? = some f → DataW.trod enc P w 0 (fun _ => true) held n f.type ((cs.drop f.offset).take (P.cellsOf f.type)) = xs[i]?) → (∀ q ∈ DataW.weightsEach P (fs.map (·.type)) (xs.map (·.1)), q ≤ reachBytes) →
    ∃ a : α, K.K w a (cs.drop off) ∧ G a
theorem rdf_one {α : Type} {P : Program} {off : Nat} {f : Field} {K : Kd α} {G : α → Prop} (ho : f.offset = off) (hc : P.cellsOf f.type = K.sz) (hr : Rd P f.type K G) : RdF P off [f] K G := by
  intro H enc w held n cs xs hl hxl hx hz
  match xs, hxl with
  | [x], _ =>
    have h0 := hx 0 f rfl
    rw [ho, hc, List.take_of_length_le (by rw [List.length_drop]; omega)] at h0
    exact hr H enc w held n _ x.1 x.2 h0 (fun q hq => hz q (by simp [DataW.weightsEach, hq]))
theorem rdf_cons {α β : Type} {P : Program} {off : Nat} {f : Field} {fs : List Field} {K : Kd α} {L : Kd β} {G : α → Prop} {E : β → Prop} (ho : f.offset = off) (hc : P.cellsOf f.type = K.sz) (hr : Rd P f.type K G) (hs : RdF P (off + K.sz) fs L E) :
    RdF P off (f :: fs) (Kd.pair K L) (fun x => G x.1 ∧ E x.2) := by
  intro H enc w held n cs xs hl hxl hx hz
  have hsz : (Kd.pair K L).sz = K.sz + L.sz := rfl
  rw [hsz] at hl
  match xs, hxl with
  | x :: xs, hxl =>
    have h0 := hx 0 f rfl
    rw [ho, hc] at h0
    obtain ⟨a, hK, hG⟩ := hr H enc w held n _ x.1 x.2 h0 (fun q hq => hz q (by simp [DataW.weightsEach, hq]))
    obtain ⟨b, hL, hE⟩ := hs H enc w held n cs xs (by omega) (by simpa using hxl) (fun i g hg => by simpa using hx (i + 1) g (by simpa using hg)) (fun q hq => hz q (by simp only [List.map_cons, DataW.weightsEach, List.mem_append]; exact .inr hq))
    refine ⟨(a, b), ⟨_, _, ?_, hK, hL⟩, hG, hE⟩
    rw [← List.drop_drop, List.take_append_drop]
theorem rd_struct {α β : Type} {P : Program} {t : TypeId} {fs : Array Field} {l : List Field} {K : Kd α} {G : α → Prop} {f : β → α} (g : α → β) (hfg : ∀ a, f (g a) = a) (ht : P.underlying t = some (.struct fs)) (hl : fs.toList = l) (hc : P.cellsOf t = K.sz) (hr : RdF P 0 l K G) :
    Rd P t (Kd.iso K f) (fun b => G (f b)) := by
  intro H enc w held fuel cs d ps h hz
  obtain ⟨xs, n, _, hx, hcl, hxl, hel⟩ := DataW.trod_struct ht h
  injection hx with hd _
  subst hd
  obtain ⟨a, hK, hG⟩ := hr H enc w held n cs xs (by rw [hcl, hc]; omega) (by rw [hxl, ← hl, Array.length_toList]) (fun i q hq => hel i q (by rw [← hl] at hq; simpa using hq)) (fun q hq => hz q (by
    rw [← hl] at hq
    simp only [DataW.weights, ht]
    exact hq))
  rw [List.drop_zero] at hK
  exact ⟨g a, by show K.K w (f (g a)) cs; rw [hfg]; exact hK, by show G (f (g a)); rw [hfg]; exact hG⟩

/-- A kind weakened. -/
theorem Rd.imp {α : Type} {P : Program} {t : TypeId} {K : Kd α} {G E : α → Prop} (h : Rd P t K G) (he : ∀ a, G a → E a) : Rd P t K E := by
  intro H enc w held fuel cs d ps htr hz
  obtain ⟨a, hK, hG⟩ := h H enc w held fuel cs d ps htr hz
  exact ⟨a, hK, he a hG⟩
/-- An argument's reading. -/
theorem rd_arg {α : Type} {P : Program} {t : TypeId} {K : Kd α} {G : α → Prop} (h : Rd P t K G) {H : Type} {enc : TypeId × Value → H} {w : World} {ts : List TypeId} {ds : List (DataW H)} {j : Nat} {v : Value} {d : DataW H} {ps : List MemPlace}
    (hsz : (DataW.weightsEach P ts ds).all (· ≤ reachBytes) = true) (ht : ts[j]? = some t) (hd : ds[j]? = some d) (htr : DataW.Trod enc P w 0 (fun _ => true) true t v d ps) : ∃ a : α, K.K w a v.cells.toList ∧ G a := by
  obtain ⟨fuel, hf⟩ := htr
  exact h H enc w true fuel _ d ps hf (fun n hn => by simpa using List.all_eq_true.1 hsz n (DataW.weights_mem_each ht hd n hn))
end Go.Proofs.Ytebmhjiogomheaa.Args
