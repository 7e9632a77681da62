/- A map from names to values in memory, as a list of its entries in any order: look-up, store, delete, length, range. -/
import Derived.Test.YtipclnniaenciaaShelf
import Derived.Test.YtipclnniaenciaaWMore
import Derived.Test.YtipclnniaenciaaWLast
import Derived.Test.YtipclnniaenciaaBytesMem
import Derived.Maps.OwnSet
import Derived.Maps.RangeWalk
import Derived.WalkKit
import Derived.ProofKit
namespace Go.Proofs.Ytipclnniaenciaa.Hand
open Go.RowKit Go.Maps
open Go.WideMaps (keyOf_string_mk)
open Go.WideShapes (insert_perm)
open Go.ChangeMaps (setBlock heap_setBlock_other)
open Go.Proofs.YtipclnniaenciaaW.PrintWords Go.Proofs.YtipclnniaenciaaW.PrintLast Go.Proofs.YtipclnniaenciaaW.PrintMore
set_option linter.unusedVariables false
set_option linter.unusedSimpArgs false
def heldR (v : Value) : Option (DataW Value × List MemPlace) := some (.held v, [])
theorem lawS : Keyed Try.prog 9 := string_keyed Try.underlying9
theorem zeroSl (w : World) : (zeroValue 22).run Try.prog w = .ok (.slice none 0 0) w := by kernel_rfl
def encE (p : ByteArray × Value) : Lit × DataW Value := (.string p.1.data.toList, .held p.2)
section
variable {α : Type}
def look (s : ByteArray) (M : List (ByteArray × α)) : Option α := (M.find? (fun p => decide (p.1 = s))).map (·.2)
def del (s : ByteArray) (M : List (ByteArray × α)) : List (ByteArray × α) := M.filter (fun p => !decide (p.1 = s))
def put (s : ByteArray) (x : α) (M : List (ByteArray × α)) : List (ByteArray × α) := (s, x) :: del s M
theorem look_mem {s : ByteArray} {x : α} {M : List (ByteArray × α)} (h : look s M = some x) : (s, x) ∈ M := by
  unfold look at h
  obtain ⟨p, hp, rfl⟩ := Option.map_eq_some_iff.1 h
  have h1 := List.mem_of_find?_eq_some hp
  have h2 := List.find?_some hp
  have h3 : p.1 = s := by simpa using h2
  rw [← h3]
  exact h1
theorem nodup_eq {M : List (ByteArray × α)} (hn : (M.map (·.1)).Nodup) {p q : ByteArray × α} (hp : p ∈ M) (hq : q ∈ M) (h : p.1 = q.1) : p = q := by
  induction M with
  | nil => cases hp
  | cons x M ih =>
    rw [List.map_cons, List.nodup_cons] at hn
    rcases List.mem_cons.1 hp with hp | hp
    · rcases List.mem_cons.1 hq with hq | hq
      · rw [hp, hq]
      · exact absurd (List.mem_map.2 ⟨q, hq, by rw [← h, hp]⟩) hn.1
    · rcases List.mem_cons.1 hq with hq | hq
      · exact absurd (List.mem_map.2 ⟨p, hp, by rw [h, hq]⟩) hn.1
      · exact ih hn.2 hp hq
theorem mem_look {s : ByteArray} {x : α} {M : List (ByteArray × α)} (hn : (M.map (·.1)).Nodup) (h : (s, x) ∈ M) : look s M = some x := by
  cases e : look s M with
  | some y =>
    have := nodup_eq hn h (look_mem e) rfl
    injection this with _ h2
    rw [h2]
  | none =>
    unfold look at e
    rw [Option.map_eq_none_iff, List.find?_eq_none] at e
    exact absurd (decide_eq_true (rfl : s = s)) (by simpa using e (s, x) h)
theorem look_none {s : ByteArray} {M : List (ByteArray × α)} (h : look s M = none) {p : ByteArray × α} (hp : p ∈ M) : p.1 ≠ s := by
  unfold look at h
  rw [Option.map_eq_none_iff, List.find?_eq_none] at h
  simpa using h p hp
theorem look_perm {s : ByteArray} {M M' : List (ByteArray × α)} (hn : (M.map (·.1)).Nodup) (hp : M.Perm M') : look s M = look s M' := by
  have hn' : (M'.map (·.1)).Nodup := (hp.map _).nodup_iff.1 hn
  cases e : look s M with
  | some x => exact (mem_look hn' (hp.mem_iff.1 (look_mem e))).symm
  | none =>
    cases e' : look s M' with
    | none => rfl
    | some x => exact absurd rfl (look_none e (hp.mem_iff.2 (look_mem e')))
theorem del_nodup {s : ByteArray} {M : List (ByteArray × α)} (hn : (M.map (·.1)).Nodup) : ((del s M).map (·.1)).Nodup := hn.sublist (List.Sublist.map _ List.filter_sublist)
theorem put_nodup {s : ByteArray} {x : α} {M : List (ByteArray × α)} (hn : (M.map (·.1)).Nodup) : ((put s x M).map (·.1)).Nodup := by
  unfold put
  rw [List.map_cons, List.nodup_cons]
  refine ⟨fun h => ?_, del_nodup hn⟩
  obtain ⟨p, hp, e⟩ := List.mem_map.1 h
  have := (List.mem_filter.1 hp).2
  simp [e] at this
theorem del_perm {s : ByteArray} {M M' : List (ByteArray × α)} (hp : M.Perm M') : (del s M).Perm (del s M') := hp.filter _
theorem put_perm {s : ByteArray} {x : α} {M M' : List (ByteArray × α)} (hp : M.Perm M') : (put s x M).Perm (put s x M') := (del_perm hp).cons _
end
theorem data_inj {a b : ByteArray} (h : a.data.toList = b.data.toList) : a = b := ByteArray.ext (Array.toList_inj.1 h)
theorem same_str (a b : ByteArray) : (Lit.string a.data.toList).sameKey (.string b.data.toList) = decide (a = b) := by
  rw [Bool.eq_iff_iff, decide_eq_true_iff]
  unfold Lit.sameKey
  rw [beq_iff_eq]
  exact ⟨data_inj, fun h => by rw [h]⟩
theorem find_enc {es : List (Lit × DataW Value)} {M : List (ByteArray × Value)} (hp : es.Perm (M.map encE)) (hn : (M.map (·.1)).Nodup) (s : ByteArray) :
    es.find? (fun p => p.1.sameKey (.string s.data.toList)) = (look s M).map (fun v => encE (s, v)) := by
  have key : ∀ p ∈ es, p.1.sameKey (.string s.data.toList) = true → ∃ v, (s, v) ∈ M ∧ p = encE (s, v) := fun p hpe hs => by
    obtain ⟨q, hq, rfl⟩ := List.mem_map.1 (hp.mem_iff.1 hpe)
    have h1 : (Lit.string q.1.data.toList).sameKey (.string s.data.toList) = true := hs
    rw [same_str] at h1
    have h2 : q.1 = s := of_decide_eq_true h1
    exact ⟨q.2, h2 ▸ hq, by rw [← h2]⟩
  cases e : look s M with
  | none =>
    rw [Option.map_none, List.find?_eq_none]
    intro p hpe hs
    obtain ⟨v, hv, _⟩ := key p hpe hs
    exact look_none e hv rfl
  | some v =>
    rw [Option.map_some]
    have hm : encE (s, v) ∈ es := hp.mem_iff.2 (List.mem_map.2 ⟨_, look_mem e, rfl⟩)
    cases f : es.find? (fun p => p.1.sameKey (.string s.data.toList)) with
    | none =>
      rw [List.find?_eq_none] at f
      exact absurd (show (encE (s, v)).1.sameKey (.string s.data.toList) = true by rw [encE, same_str]; exact decide_eq_true rfl) (f _ hm)
    | some p =>
      obtain ⟨u, hu, rfl⟩ := key p (List.mem_of_find?_eq_some f) (List.find?_some (p := fun p : Lit × DataW Value => p.1.sameKey (.string s.data.toList)) f)
      have := nodup_eq hn hu (look_mem e) rfl
      rw [this]
theorem atKey_enc {es : List (Lit × DataW Value)} {M : List (ByteArray × Value)} (hp : es.Perm (M.map encE)) (hn : (M.map (·.1)).Nodup) (s : ByteArray) (z : Value) :
    (DataW.map es).atKey (.string s.data.toList) (.held z) = .held ((look s M).getD z) := by
  unfold DataW.atKey
  simp only [find_enc hp hn s]
  cases look s M <;> rfl
theorem has_enc {es : List (Lit × DataW Value)} {M : List (ByteArray × Value)} (hp : es.Perm (M.map encE)) (hn : (M.map (·.1)).Nodup) (s : ByteArray) :
    Maps.has (DataW.map es) (.string s.data.toList) = (look s M).isSome := by
  rw [Maps.has_eq]
  have h := find_enc hp hn s
  cases e : look s M with
  | none =>
    rw [e, Option.map_none, List.find?_eq_none] at h
    rw [Option.isSome_none, List.any_eq_false]
    exact h
  | some v =>
    rw [e, Option.map_some] at h
    rw [Option.isSome_some, List.any_eq_true]
    exact ⟨_, List.mem_of_find?_eq_some h, List.find?_some (p := fun p : Lit × DataW Value => p.1.sameKey (.string s.data.toList)) h⟩
theorem filter_enc (M : List (ByteArray × Value)) (s : ByteArray) : (M.map encE).filter (fun p => !p.1.sameKey (.string s.data.toList)) = (del s M).map encE := by
  rw [List.filter_map]
  unfold del
  congr 2
  funext q
  show (!(Lit.string q.1.data.toList).sameKey (.string s.data.toList)) = _
  rw [same_str]
/-- Block b is a map that holds just the entries M. -/
def MapAt (w : World) (b : Nat) (M : List (ByteArray × Value)) : Prop :=
  ∃ es, w.ownsMap Try.prog 9 heldR b M.length (.map es) ∧ es.Perm (M.map encE) ∧ (M.map (·.1)).Nodup
theorem tight {w : World} {b n : Nat} {es : List (Lit × DataW Value)} (h : w.ownsMap Try.prog 9 heldR b n (.map es)) : w.ownsMap Try.prog 9 heldR b es.length (.map es) := by
  obtain ⟨es0, clock, hb, F, hs, hD⟩ := h
  refine ⟨es0, clock, hb, F, ?_, hD⟩
  injection hD with hD
  rw [hD, length_sorted, List.length_map, Array.length_toList]
  exact Nat.le_refl _
theorem MapAt.mk {w : World} {b n : Nat} {es : List (Lit × DataW Value)} {M : List (ByteArray × Value)} (h : w.ownsMap Try.prog 9 heldR b n (.map es)) (hp : es.Perm (M.map encE)) (hn : (M.map (·.1)).Nodup) : MapAt w b M := by
  refine ⟨es, ?_, hp, hn⟩
  have e : M.length = es.length := by rw [hp.length_eq, List.length_map]
  rw [e]
  exact tight h
section
variable {w w' : World} {b : Nat} {M : List (ByteArray × Value)}
theorem MapAt.lt (h : MapAt w b M) : b < w.heap.size := by
  obtain ⟨es, ho, _⟩ := h
  exact ho.lt
theorem MapAt.map (h : MapAt w b M) : ∃ es clock, w.heap[b]? = some (.map es clock) := by
  obtain ⟨es, ⟨es0, clock, hb, _⟩, _⟩ := h
  exact ⟨es0, clock, hb⟩
theorem MapAt.ne {g : Nat} {cs : Array Value} {t : TypeId} {fz : Nat × Nat} (h : MapAt w b M) (hg : w.heap[g]? = some (.cells cs t fz)) : b ≠ g := by
  rintro rfl
  obtain ⟨es, clock, hb⟩ := h.map
  rw [hb] at hg
  cases hg
theorem MapAt.move (h : MapAt w b M) (hb : w'.heap[b]? = w.heap[b]?) : MapAt w' b M := by
  obtain ⟨es, ⟨es0, clock, h0, r⟩, r2⟩ := h
  exact ⟨es, ⟨es0, clock, hb.trans h0, r⟩, r2⟩
theorem MapAt.perm {M' : List (ByteArray × Value)} (h : MapAt w b M) (hp : M.Perm M') : MapAt w b M' := by
  obtain ⟨es, ho, h1, h2⟩ := h
  exact MapAt.mk ho (h1.trans (hp.map _)) ((hp.map _).nodup_iff.1 h2)
theorem MapAt.made (w : World) : MapAt (w.alloc (.map #[] 0)) w.heap.size [] := ⟨[], World.ownsMap_made _ _ _ _, .refl _, List.nodup_nil⟩
theorem MapAt.look_ok (h : MapAt w b M) {s : ByteArray} (hs : s.size ≤ maxLen) :
    (Instr.lookup 54 (.map (some b)) (.string s) true).run Try.prog w = .ok (.tuple #[(look s M).getD (.slice none 0 0), .bool (look s M).isSome]) w := by
  obtain ⟨es, ho, hp, hn⟩ := h
  obtain ⟨v, ps, hrun, hv⟩ := ho.look_ok lawS Try.underlying54 (zeroSl w) (zd := .held (.slice none 0 0)) (zp := []) rfl (keyOf_string_mk Try.underlying9 hs)
  rw [hrun, has_enc hp hn]
  rw [atKey_enc hp hn] at hv
  injection hv with hv
  injection hv with hv _
  injection hv with hv
  rw [hv]
theorem MapAt.look (h : MapAt w b M) {s : ByteArray} (hs : s.size ≤ maxLen) :
    (Instr.lookup 54 (.map (some b)) (.string s) false).run Try.prog w = .ok ((look s M).getD (.slice none 0 0)) w := by
  obtain ⟨es, ho, hp, hn⟩ := h
  obtain ⟨v, ps, hrun, hv⟩ := ho.lookup lawS Try.underlying54 (zeroSl w) (zd := .held (.slice none 0 0)) (zp := []) rfl (keyOf_string_mk Try.underlying9 hs)
  rw [hrun]
  rw [atKey_enc hp hn] at hv
  injection hv with hv
  injection hv with hv _
  injection hv with hv
  rw [hv]
theorem MapAt.len (h : MapAt w b M) (ty : TypeId) : (Builtin.len_ #[54] ty #[.map (some b)]).run Try.prog w = .ok (.int .i64 M.length) w := by
  obtain ⟨es, ho, hp, hn⟩ := h
  rw [ho.len Try.underlying54 ty]
  have e : Maps.size (DataW.map es) = M.length := by rw [Maps.size_eq, hp.length_eq, List.length_map]
  rw [e]
theorem turned {b : Nat} (h : w.mapTurned w' b) : w.grownBy w' (some b) ∧ w'.heap.size = w.heap.size := by
  obtain ⟨es, clock, es', clock', hb, rfl⟩ := h
  exact ⟨⟨rfl, rfl, rfl, by simp [setBlock], fun i _ hi => heap_setBlock_other hb _ (fun e => hi (by rw [e]))⟩, by simp [setBlock]⟩
theorem MapAt.store (h : MapAt w b M) {s : ByteArray} (hs : s.size ≤ maxLen) (hl : M.length < maxLen) (v : Value) :
    ∃ w', (Instr.mapUpdate 54 (.map (some b)) (.string s) v).run Try.prog w = .ok () w' ∧ MapAt w' b (put s v M) ∧ w.grownBy w' (some b) ∧ w'.heap.size = w.heap.size := by
  obtain ⟨es, ho, hp, hn⟩ := h
  obtain ⟨w', hrun, h1, ht⟩ := ho.store lawS Try.underlying54 hl (keyOf_string_mk Try.underlying9 hs) (show heldR v = some (.held v, []) from rfl)
  refine ⟨w', hrun, MapAt.mk h1 ?_ (put_nodup hn), turned ht⟩
  refine (insert_perm _ _).trans (List.Perm.cons _ ?_)
  rw [← filter_enc]
  exact hp.filter _
theorem MapAt.drop (h : MapAt w b M) {s : ByteArray} (hs : s.size ≤ maxLen) (ty : TypeId) :
    ∃ w', (Builtin.delete_ #[54, 9] ty #[.map (some b), .string s]).run Try.prog w = .ok (.tuple #[]) w' ∧ MapAt w' b (del s M) ∧ w.grownBy w' (some b) ∧ w'.heap.size = w.heap.size := by
  obtain ⟨es, ho, hp, hn⟩ := h
  obtain ⟨w', hrun, h1, ht⟩ := ho.drop lawS Try.underlying54 (keyOf_string_mk Try.underlying9 hs) ty
  refine ⟨w', hrun, MapAt.mk h1 ?_ (del_nodup hn), turned ht⟩
  rw [← filter_enc]
  exact hp.filter _
/-- Block r ranges over the map in block b; T: what is still to come. -/
def RangeAt (w : World) (b r : Nat) (M T : List (ByteArray × Value)) : Prop :=
  ∃ es left cnt, w.ranges Try.prog 9 heldR b r M.length (.map es) left cnt ∧ es.Perm (M.map encE) ∧ (M.map (·.1)).Nodup ∧ T = M.filter (fun p => left (.string p.1.data.toList))
theorem RangeAt.owns {T : List (ByteArray × Value)} {r : Nat} (h : RangeAt w b r M T) : MapAt w b M := by
  obtain ⟨es, left, cnt, h1, h2, h3, _⟩ := h
  exact ⟨es, h1.owns, h2, h3⟩
theorem RangeAt.lt {T : List (ByteArray × Value)} {r : Nat} (h : RangeAt w b r M T) : r < w.heap.size := by
  obtain ⟨es, left, cnt, h1, h2, h3, _⟩ := h
  exact h1.lt
theorem RangeAt.kept {T : List (ByteArray × Value)} {r : Nat} {row : Option Nat} (h : RangeAt w b r M T) (hg : w.grownBy w' row) (hb : some b ≠ row) (hr : some r ≠ row) : RangeAt w' b r M T := by
  obtain ⟨es, left, cnt, h1, h2⟩ := h
  exact ⟨es, left, cnt, h1.kept hg hb hr, h2⟩
theorem MapAt.range (h : MapAt w b M) :
    ∃ w', (Instr.range 54 (.map (some b))).run Try.prog w = .ok (.pointer (some ⟨w.heap.size, 0, none⟩)) w' ∧ RangeAt w' b w.heap.size M M ∧ w.grownBy w' none ∧ w'.heap.size = w.heap.size + 1 := by
  obtain ⟨es, ho, hp, hn⟩ := h
  obtain ⟨w', hrun, hr, hg, hs⟩ := ho.range lawS Try.underlying54
  refine ⟨w', hrun, ⟨es, _, _, hr, hp, hn, ?_⟩, hg, hs⟩
  symm
  rw [List.filter_eq_self]
  intro p hpm
  rw [has_enc hp hn, mem_look hn (show (p.1, p.2) ∈ M from hpm)]
  rfl
theorem RangeAt.next {T : List (ByteArray × Value)} {r : Nat} (h : RangeAt w b r M T) (ty : TypeId) :
    (T = [] ∧ (Instr.next (.pointer (some ⟨r, 0, none⟩)) false ty).run Try.prog w = .ok (.tuple #[.bool false]) w) ∨
    ∃ s v w' T', (s, v) ∈ M ∧ T.Perm ((s, v) :: T') ∧ (Instr.next (.pointer (some ⟨r, 0, none⟩)) false ty).run Try.prog w = .ok (.tuple #[.bool true, .string s, v]) w' ∧ RangeAt w' b r M T' ∧ w.grownBy w' (some r) ∧ w'.heap.size = w.heap.size ∧
      (Instr.entry (.pointer (some ⟨r, 0, none⟩))).run Try.prog w' = .ok (.tuple #[.string s, v]) w' := by
  obtain ⟨es, left, cnt, hr, hp, hn, rfl⟩ := h
  rcases hr.next lawS ty with ⟨_, hl, hrun⟩ | ⟨key, v, kl, y, w', cnt', hkey, hlk, hv, hat, hrun, hrg, hlt, hgr, hsz, hen⟩
  · refine .inl ⟨?_, hrun⟩
    rw [List.filter_eq_nil_iff]
    intro p _
    rw [hl]
    simp
  · injection hv with hv
    subst hv
    have hm : ∃ s u, (s, u) ∈ M ∧ kl = .string s.data.toList ∧ u = v := by
      have hf : es.find? (fun p => p.1.sameKey kl) ≠ none := fun e => by
        have := hat (.lit (.bool true))
        unfold DataW.atKey at this
        simp only [e] at this
        cases this
      obtain ⟨p, hpf⟩ := Option.ne_none_iff_exists'.1 hf
      obtain ⟨q, hq, rfl⟩ := List.mem_map.1 (hp.mem_iff.1 (List.mem_of_find?_eq_some hpf))
      have hk : (encE q).1 = kl := WideAt.sameKey_eq (List.find?_some (p := fun p : Lit × DataW Value => p.1.sameKey kl) hpf)
      have := hat (.lit (.bool true))
      unfold DataW.atKey at this
      simp only [hpf] at this
      injection this with this
      exact ⟨q.1, q.2, hq, hk.symm, this⟩
    obtain ⟨s, u, hsm, rfl, rfl⟩ := hm
    have hks : key = .string s := by
      rw [Go.keyOf_string Try.underlying9] at hkey
      unfold mapKey at hkey
      rw [Try.underlying9] at hkey
      cases key with
      | string z =>
        simp only at hkey
        split at hkey
        · injection hkey with hkey
          injection hkey with hkey
          rw [data_inj hkey]
        · cases hkey
      | _ => simp at hkey
    subst hks
    refine .inr ⟨s, u, w', M.filter (fun p => left (.string p.1.data.toList) && !(Lit.string p.1.data.toList).sameKey (.string s.data.toList)), hsm, ?_, hrun, ⟨es, _, _, hrg, hp, hn, rfl⟩, hgr, hsz, hen⟩
    have hT : (M.filter (fun p => left (.string p.1.data.toList) && !(Lit.string p.1.data.toList).sameKey (.string s.data.toList))) = del s (M.filter (fun p => left (.string p.1.data.toList))) := by
      unfold del
      rw [List.filter_filter]
      congr 1
      funext p
      rw [same_str, Bool.and_comm]
    rw [hT]
    have hmT : (s, u) ∈ M.filter (fun p => left (.string p.1.data.toList)) := List.mem_filter.2 ⟨hsm, hlk⟩
    have hnT : ((M.filter (fun p => left (.string p.1.data.toList))).map (·.1)).Nodup := hn.sublist (List.Sublist.map _ List.filter_sublist)
    generalize M.filter (fun p => left (.string p.1.data.toList)) = T at hmT hnT ⊢
    clear hn hsm hp hr hrg hrun hat hen hgr hkey hlk hlt hsz
    induction T with
    | nil => cases hmT
    | cons x T ih =>
      rw [List.map_cons, List.nodup_cons] at hnT
      unfold del
      rw [List.filter_cons]
      rcases List.mem_cons.1 hmT with rfl | hmT
      · have : (!decide (((s, u) : ByteArray × Value).1 = s)) = false := by simp
        rw [if_neg (by simp)]
        refine List.Perm.cons _ (.of_eq ?_)
        symm
        rw [List.filter_eq_self]
        intro p hpT
        have : p.1 ≠ s := fun e => hnT.1 (List.mem_map.2 ⟨p, hpT, e⟩)
        simpa using this
      · have hx : x.1 ≠ s := fun e => hnT.1 (List.mem_map.2 ⟨_, hmT, e.symm⟩)
        rw [if_pos (by simpa using hx)]
        exact ((ih hmT hnT.2).cons x).trans (List.Perm.swap _ _ _)
end
end Go.Proofs.Ytipclnniaenciaa.Hand
