-- Printed by a program of this session's own (wip/gen), which turns the kit's printer; not one of the kit's printed texts.
import Derived.Test.YtgfpkhihdahjlabProg
import Derived.Below
import Derived.Deep.Draws
import Derived.Deep.AppendLies
import Derived.Maps.AppendAt
import Derived.OwnWalk
import Derived.Laws.BytesArg
import Derived.Laws.MakeOwn
import Derived.Laws.OwnMore
import Derived.Deep.OwnRows
import Derived.Tactics
import Derived.Lib.ConvBytes
import Derived.Laws.Slices
import Derived.WalkKit
import Derived.KernelRfl
import Derived.RowKit3
import Derived.Deep.LoopGhost
import Derived.Deep.QuietTactic
import Derived.BigQuiet
import Derived.WideLaws
import Derived.Deep.DeepCutAuto
import Derived.Deep.CutBlock
import Derived.Deep.RegionHeld3
import Derived.Laws.Rows
import Derived.Lib.AppendStr
import Derived.ArgAppend
import Derived.Laws.IdiomCopy
import Derived.OrdersHeld
import Derived.Laws.BitsLemmas
import Derived.RowKit
import Derived.Test.YtgfpkhihdahjlabGiven
import Derived.Test.YtgfpkhihdahjlabWWords
import Derived.Test.YtgfpkhihdahjlabWLast
import Derived.Test.YtgfpkhihdahjlabWTab
import Derived.Test.YtgfpkhihdahjlabWFour
import Derived.Test.YtgfpkhihdahjlabWQPut
import Derived.Test.YtgfpkhihdahjlabWApart
import Derived.Test.YtgfpkhihdahjlabWArr
import Derived.Test.YtgfpkhihdahjlabWZeros
import Derived.Test.YtgfpkhihdahjlabWFoot
import Derived.Test.YtgfpkhihdahjlabWKept
import Derived.Test.YtgfpkhihdahjlabWShare
import Derived.Test.YtgfpkhihdahjlabWN
import Derived.Test.YtgfpkhihdahjlabWFootNe
import Derived.Test.YtgfpkhihdahjlabWAt
import Derived.Test.YtgfpkhihdahjlabWEqStruct
import Derived.Test.YtgfpkhihdahjlabWRepsOne
import Derived.Test.YtgfpkhihdahjlabWInv
import Derived.Test.YtgfpkhihdahjlabWInvWords
import Derived.Test.YtgfpkhihdahjlabWGuard
import Derived.Test.YtgfpkhihdahjlabWNEv
import Derived.Test.YtgfpkhihdahjlabWMore
namespace Go.Proofs.Ytgfpkhihdahjlab.QWire
open Go.RowKit Go.Proofs.Ytgfpkhihdahjlab.Given Go.Proofs.YtgfpkhihdahjlabW.PrintWords Go.Proofs.YtgfpkhihdahjlabW.PrintLast Go.Proofs.YtgfpkhihdahjlabW.PrintMore
attribute [local go_sem] max2_int min2_int max_two min_two max_three min_three max_four min_four   -- for this text's walks alone
set_option linter.unusedVariables false
set_option linter.unusedSimpArgs false
noncomputable section



def errW : Option Int → Value
 | none => .nilIface
 | some c => .iface 0 (.int .i64 c)
theorem errW_none : errW none = .nilIface := rfl
theorem errW_some (c : Int) : errW (some c) = .iface 0 (.int .i64 c) := rfl

theorem info3 : (Try.prog.info? 3).map (fun i => (i.zero, i.size, i.bytes)) = some (some (.int .i64 0), 1, 8) := by kernel_rfl
theorem info5 : (Try.prog.info? 5).map (fun i => (i.zero, i.size, i.bytes)) = some (some (.int .u8 0), 1, 1) := by kernel_rfl
-- the values' own types

end
end Go.Proofs.Ytgfpkhihdahjlab.QWire
