/- The document's Ints on one list. -/
import Derived.Test.YtaifpiknddgnmaaDoorRouteBase
import Derived.Test.YtaifpiknddgnmaaDoorPBx4
namespace Go.Proofs.YtaifpiknddgnmaaDoor.Addr
open Go.RowKit  Go.Proofs.YtaifpiknddgnmaaDoor.PC Go.Proofs.YtaifpiknddgnmaaDoor.PB Go.Proofs.YtaifpiknddgnmaaDoorW.PrintWords Go.Proofs.YtaifpiknddgnmaaDoorW.PrintLast Go.Proofs.YtaifpiknddgnmaaDoorW.PrintMore Go.Proofs.YtaifpiknddgnmaaDoor.Hand
set_option linter.unusedVariables false
theorem ints_loop (l : List Int) (hl : l.length ≤ 1000000) : ∀ (d i : Nat), l.length - i = d → i ≤ l.length → Ev (fun k => estafetteref08_Ints.l0 k l l (i : Int)) true := by
  intro d
  induction d with
  | zero =>
    intro i hd hi
    refine Ev_succ ?_
    simp only [estafetteref08_Ints.l0]
    exact ev_neg (by omega) (ev_now rfl)
  | succ d ih =>
    intro i hd hi
    have e2 := w_succ i (by omega)
    refine Ev_succ ?_
    simp only [estafetteref08_Ints.l0, e2.out]
    exact ev_pos (by omega) (ev_pos (by omega) (ev_pos (by omega) (ev_pos trivial (ih (i + 1) (by omega) (by omega)))))
theorem ints_ev (l : List Int) (hl : l.length ≤ 1000000) : Ev (fun k => estafetteref08_Ints.f k l l) true := by
  unfold estafetteref08_Ints.f
  exact ev_pos rfl (ints_loop l hl _ 0 rfl (Nat.zero_le _))
end Go.Proofs.YtaifpiknddgnmaaDoor.Addr
