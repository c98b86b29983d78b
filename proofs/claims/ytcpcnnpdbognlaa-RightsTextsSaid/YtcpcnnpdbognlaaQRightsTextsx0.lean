-- Written by a program of this session (wip/tools/pp.py), which drives the kit's print with contracts of the session's own: not the kit's printed text.
import Derived.Test.YtcpcnnpdbognlaaProg
import Derived.Below
import Derived.Deep.Draws
import Derived.Deep.AppendLies
import Derived.Maps.AppendAt
import Derived.OwnWalk
import Derived.Laws.BytesArg
import Derived.Laws.MakeOwn
import Derived.Laws.OwnMore
import Derived.Deep.OwnRows
import Derived.Tactics
import Derived.Lib.ConvBytes
import Derived.Laws.Slices
import Derived.WalkKit
import Derived.KernelRfl
import Derived.RowKit3
import Derived.Deep.LoopGhost
import Derived.Deep.QuietTactic
import Derived.BigQuiet
import Derived.WideLaws
import Derived.Deep.DeepCutAuto
import Derived.Deep.CutBlock
import Derived.Deep.RegionHeld3
import Derived.Laws.Rows
import Derived.Lib.AppendStr
import Derived.ArgAppend
import Derived.Laws.IdiomCopy
import Derived.OrdersHeld
import Derived.Laws.BitsLemmas
import Derived.RowKit
import Derived.Test.YtcpcnnpdbognlaaRights
import Derived.Test.YtcpcnnpdbognlaaWWords
import Derived.Test.YtcpcnnpdbognlaaWLast
import Derived.Test.YtcpcnnpdbognlaaWTab
import Derived.Test.YtcpcnnpdbognlaaWFour
import Derived.Test.YtcpcnnpdbognlaaWQPut
import Derived.Test.YtcpcnnpdbognlaaWApart
import Derived.Test.YtcpcnnpdbognlaaWArr
import Derived.Test.YtcpcnnpdbognlaaWZeros
import Derived.Test.YtcpcnnpdbognlaaWFoot
import Derived.Test.YtcpcnnpdbognlaaWKept
import Derived.Test.YtcpcnnpdbognlaaWShare
import Derived.Test.YtcpcnnpdbognlaaWN
import Derived.Test.YtcpcnnpdbognlaaWFootNe
import Derived.Test.YtcpcnnpdbognlaaWAt
import Derived.Test.YtcpcnnpdbognlaaWEqStruct
import Derived.Test.YtcpcnnpdbognlaaWRepsOne
import Derived.Test.YtcpcnnpdbognlaaWInv
import Derived.Test.YtcpcnnpdbognlaaWInvWords
import Derived.Test.YtcpcnnpdbognlaaWGuard
import Derived.Test.YtcpcnnpdbognlaaWNEv
import Derived.Test.YtcpcnnpdbognlaaWMore
namespace Go.Proofs.Ytcpcnnpdbognlaa.QRightsTexts
open Go.RowKit Go.Proofs.YtcpcnnpdbognlaaW.PrintWords Go.Proofs.YtcpcnnpdbognlaaW.PrintLast Go.Proofs.YtcpcnnpdbognlaaW.PrintMore
attribute [local go_sem] max2_int min2_int max_two min_two max_three min_three max_four min_four   -- for this text's walks alone
set_option linter.unusedVariables false
set_option linter.unusedSimpArgs false



def errW : Option Int → Value
  | none => .nilIface
  | some c => .iface 0 (.int .i64 c)
theorem errW_none : errW none = .nilIface := rfl
theorem errW_some (c : Int) : errW (some c) = .iface 0 (.int .i64 c) := rfl

-- the values' own types

end Go.Proofs.Ytcpcnnpdbognlaa.QRightsTexts
