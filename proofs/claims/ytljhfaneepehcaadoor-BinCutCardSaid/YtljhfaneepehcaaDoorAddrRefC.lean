/- What Canon of the program and of the document compute. -/
import Derived.Test.YtljhfaneepehcaaDoorAddrRefS
namespace Go.Proofs.YtljhfaneepehcaaDoor.Addr
open Go.RowKit Go.Proofs.YtljhfaneepehcaaDoor.PB Go.Proofs.YtljhfaneepehcaaDoorW.PrintWords Go.Proofs.YtljhfaneepehcaaDoorW.PrintLast Go.Proofs.YtljhfaneepehcaaDoorW.PrintMore
set_option linter.unusedVariables false
def canonR (l : List UInt8) : ByteArray × Bool := match canonL l with
  | some c => (mk c, true)
  | none => (mk [], false)
theorem refCanon_ev (l : List UInt8) (hs : l.length < 4611686018427387904) : Ev (fun k => estafetteref01_Canon.f k (mk l)) (canonR l) := by
  unfold estafetteref01_Canon.f
  refine Ev.bind (refSplit_ev l hs) ?_
  unfold splitR canonR canonL
  cases e : splitL l with
  | none => exact ev_neg (by simp) (ev_now rfl)
  | some q =>
    obtain ⟨a, b⟩ := q
    obtain ⟨h1, h2⟩ := split_len e
    refine ev_pos rfl (ev_pos (by rw [mk_size]; omega) ?_)
    have : Hand.ref_Lower.f (mk b) = some (mk (lowerL b)) := by unfold Hand.ref_Lower.f; rw [if_pos (by rw [mk_size]; omega), list_mk]
    rw [this]
    refine ev_some (ev_pos (by rw [at_mk, mk_app, mk_size, mk_size, lowerL_len, List.length_append, List.length_singleton]; omega) (ev_now ?_))
    rw [at_mk, mk_app, mk_app]
    rfl
theorem canon_eq (l : List UInt8) (hs : l.length < 4611686018427387904) : addr_Canon.f (mk l) = some (canonR l) := by
  unfold addr_Canon.f
  rw [split_eq l hs, Option.bind_some]
  unfold splitR canonR canonL
  cases e : splitL l with
  | none => rfl
  | some q =>
    obtain ⟨a, b⟩ := q
    obtain ⟨h1, h2⟩ := split_len e
    have : Hand.addr_Lower.f (mk b) = some (mk (lowerL b)) := by unfold Hand.addr_Lower.f; rw [if_pos (by rw [mk_size]; omega), list_mk]
    show (if true = true then (if (mk a).size + 1 ≤ 9223372036854775807 then (Hand.addr_Lower.f (mk b)).bind _ else none) else _) = _
    rw [if_pos rfl, if_pos (by rw [mk_size]; omega), this, Option.bind_some, at_mk, mk_app, if_pos (by rw [mk_size, mk_size, lowerL_len, List.length_append, List.length_singleton]; omega), mk_app]
    rfl
end Go.Proofs.YtljhfaneepehcaaDoor.Addr
