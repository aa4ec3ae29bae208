-- Printed by a program of this session's own (wip/gen), which turns the kit's printer; not one of the kit's printed texts.
import Derived.Test.YtgfpkhihdahjlaaProg
import Derived.Below
import Derived.Deep.Draws
import Derived.Deep.AppendLies
import Derived.Maps.AppendAt
import Derived.OwnWalk
import Derived.Laws.BytesArg
import Derived.Laws.MakeOwn
import Derived.Laws.OwnMore
import Derived.Deep.OwnRows
import Derived.Tactics
import Derived.Lib.ConvBytes
import Derived.Laws.Slices
import Derived.WalkKit
import Derived.KernelRfl
import Derived.RowKit3
import Derived.Deep.LoopGhost
import Derived.Deep.QuietTactic
import Derived.BigQuiet
import Derived.WideLaws
import Derived.Deep.DeepCutAuto
import Derived.Deep.CutBlock
import Derived.Deep.RegionHeld3
import Derived.Laws.Rows
import Derived.Lib.AppendStr
import Derived.ArgAppend
import Derived.Laws.IdiomCopy
import Derived.OrdersHeld
import Derived.Laws.BitsLemmas
import Derived.RowKit
import Derived.Test.YtgfpkhihdahjlaaWWords
import Derived.Test.YtgfpkhihdahjlaaWLast
import Derived.Test.YtgfpkhihdahjlaaWTab
import Derived.Test.YtgfpkhihdahjlaaWFour
import Derived.Test.YtgfpkhihdahjlaaWQPut
import Derived.Test.YtgfpkhihdahjlaaWApart
import Derived.Test.YtgfpkhihdahjlaaWArr
import Derived.Test.YtgfpkhihdahjlaaWZeros
import Derived.Test.YtgfpkhihdahjlaaWFoot
import Derived.Test.YtgfpkhihdahjlaaWKept
import Derived.Test.YtgfpkhihdahjlaaWShare
import Derived.Test.YtgfpkhihdahjlaaWN
import Derived.Test.YtgfpkhihdahjlaaWFootNe
import Derived.Test.YtgfpkhihdahjlaaWAt
import Derived.Test.YtgfpkhihdahjlaaWEqStruct
import Derived.Test.YtgfpkhihdahjlaaWRepsOne
import Derived.Test.YtgfpkhihdahjlaaWInv
import Derived.Test.YtgfpkhihdahjlaaWInvWords
import Derived.Test.YtgfpkhihdahjlaaWGuard
import Derived.Test.YtgfpkhihdahjlaaWNEv
import Derived.Test.YtgfpkhihdahjlaaWMore
namespace Go.Proofs.Ytgfpkhihdahjlaa.QFixBack
open Go.RowKit Go.Proofs.YtgfpkhihdahjlaaW.PrintWords Go.Proofs.YtgfpkhihdahjlaaW.PrintLast Go.Proofs.YtgfpkhihdahjlaaW.PrintMore
attribute [local go_sem] max2_int min2_int max_two min_two max_three min_three max_four min_four   -- for this text's walks alone
set_option linter.unusedVariables false
set_option linter.unusedSimpArgs false



def errW : Option Int → Value
  | none => .nilIface
  | some c => .iface 0 (.int .i64 c)
theorem errW_none : errW none = .nilIface := rfl
theorem errW_some (c : Int) : errW (some c) = .iface 0 (.int .i64 c) := rfl

-- the values' own types

end Go.Proofs.Ytgfpkhihdahjlaa.QFixBack
