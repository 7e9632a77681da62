/- For every input: what the functions below return, or the statement that this text proves. Written by a program of this claim.s author (a turned print). -/
import Derived.Test.YtgpchkkdpljonaaProg
import Derived.Below
import Derived.Deep.Draws
import Derived.Deep.AppendLies
import Derived.Maps.AppendAt
import Derived.OwnWalk
import Derived.Laws.BytesArg
import Derived.Laws.MakeOwn
import Derived.Laws.OwnMore
import Derived.Deep.OwnRows
import Derived.Tactics
import Derived.Lib.ConvBytes
import Derived.Laws.Slices
import Derived.WalkKit
import Derived.KernelRfl
import Derived.RowKit3
import Derived.Deep.LoopGhost
import Derived.Deep.QuietTactic
import Derived.BigQuiet
import Derived.WideLaws
import Derived.Deep.DeepCutAuto
import Derived.Deep.CutBlock
import Derived.Deep.RegionHeld3
import Derived.Laws.Rows
import Derived.Lib.AppendStr
import Derived.ArgAppend
import Derived.Laws.IdiomCopy
import Derived.OrdersHeld
import Derived.Laws.BitsLemmas
import Derived.RowKit
import Derived.Test.YtgpchkkdpljonaaWWords
import Derived.Test.YtgpchkkdpljonaaWLast
import Derived.Test.YtgpchkkdpljonaaWTab
import Derived.Test.YtgpchkkdpljonaaWFour
import Derived.Test.YtgpchkkdpljonaaWQPut
import Derived.Test.YtgpchkkdpljonaaWApart
import Derived.Test.YtgpchkkdpljonaaWArr
import Derived.Test.YtgpchkkdpljonaaWZeros
import Derived.Test.YtgpchkkdpljonaaWFoot
import Derived.Test.YtgpchkkdpljonaaWKept
import Derived.Test.YtgpchkkdpljonaaWShare
import Derived.Test.YtgpchkkdpljonaaWN
import Derived.Test.YtgpchkkdpljonaaWFootNe
import Derived.Test.YtgpchkkdpljonaaWAt
import Derived.Test.YtgpchkkdpljonaaWEqStruct
import Derived.Test.YtgpchkkdpljonaaWRepsOne
import Derived.Test.YtgpchkkdpljonaaWInv
import Derived.Test.YtgpchkkdpljonaaWInvWords
import Derived.Test.YtgpchkkdpljonaaWGuard
import Derived.Test.YtgpchkkdpljonaaWNEv
import Derived.Test.YtgpchkkdpljonaaWMore
namespace Go.Proofs.Ytgpchkkdpljonaa.PB
open Go.RowKit Go.Proofs.YtgpchkkdpljonaaW.PrintWords Go.Proofs.YtgpchkkdpljonaaW.PrintLast Go.Proofs.YtgpchkkdpljonaaW.PrintMore
attribute [local go_sem] max2_int min2_int max_two min_two max_three min_three max_four min_four   -- for this text's walks alone
set_option linter.unusedVariables false
set_option linter.unusedSimpArgs false



def errW : Option Int → Value
  | none => .nilIface
  | some c => .iface 0 (.int .i64 c)
theorem errW_none : errW none = .nilIface := rfl
theorem errW_some (c : Int) : errW (some c) = .iface 0 (.int .i64 c) := rfl

-- the values' own types

end Go.Proofs.Ytgpchkkdpljonaa.PB
