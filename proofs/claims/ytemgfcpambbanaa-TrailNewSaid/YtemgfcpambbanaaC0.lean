/- The words that the contracts of the trail functions share. -/
import Derived.Test.YtemgfcpambbanaaProg
import Derived.Below
import Derived.Deep.Draws
import Derived.Deep.AppendLies
import Derived.Maps.AppendAt
import Derived.OwnWalk
import Derived.Laws.BytesArg
import Derived.Laws.MakeOwn
import Derived.Laws.OwnMore
import Derived.Deep.OwnRows
import Derived.Tactics
import Derived.Lib.ConvBytes
import Derived.Laws.Slices
import Derived.WalkKit
import Derived.KernelRfl
import Derived.RowKit3
import Derived.Deep.LoopGhost
import Derived.Deep.QuietTactic
import Derived.BigQuiet
import Derived.WideLaws
import Derived.Deep.DeepCutAuto
import Derived.Deep.CutBlock
import Derived.Deep.RegionHeld3
import Derived.Laws.Rows
import Derived.Lib.AppendStr
import Derived.ArgAppend
import Derived.Laws.IdiomCopy
import Derived.OrdersHeld
import Derived.Laws.BitsLemmas
import Derived.RowKit
import Derived.Test.YtemgfcpambbanaaWWords
import Derived.Test.YtemgfcpambbanaaWLast
import Derived.Test.YtemgfcpambbanaaWTab
import Derived.Test.YtemgfcpambbanaaWFour
import Derived.Test.YtemgfcpambbanaaWQPut
import Derived.Test.YtemgfcpambbanaaWApart
import Derived.Test.YtemgfcpambbanaaWArr
import Derived.Test.YtemgfcpambbanaaWZeros
import Derived.Test.YtemgfcpambbanaaWFoot
import Derived.Test.YtemgfcpambbanaaWKept
import Derived.Test.YtemgfcpambbanaaWShare
import Derived.Test.YtemgfcpambbanaaWN
import Derived.Test.YtemgfcpambbanaaWFootNe
import Derived.Test.YtemgfcpambbanaaWAt
import Derived.Test.YtemgfcpambbanaaWEqStruct
import Derived.Test.YtemgfcpambbanaaWRepsOne
import Derived.Test.YtemgfcpambbanaaWInv
import Derived.Test.YtemgfcpambbanaaWInvWords
import Derived.Test.YtemgfcpambbanaaWGuard
import Derived.Test.YtemgfcpambbanaaWNEv
import Derived.Test.YtemgfcpambbanaaWMore
namespace Go.Proofs.Ytemgfcpambbanaa.PT
open Go.RowKit Go.Proofs.YtemgfcpambbanaaW.PrintWords Go.Proofs.YtemgfcpambbanaaW.PrintLast Go.Proofs.YtemgfcpambbanaaW.PrintMore
attribute [local go_sem] max2_int min2_int max_two min_two max_three min_three max_four min_four   -- for this text's walks alone
set_option linter.unusedVariables false
set_option linter.unusedSimpArgs false



def errW : Option Int → Value
  | none => .nilIface
  | some c => .iface 0 (.int .i64 c)
theorem errW_none : errW none = .nilIface := rfl
theorem errW_some (c : Int) : errW (some c) = .iface 0 (.int .i64 c) := rfl

theorem info3 : (Try.prog.info? 3).map (fun i => (i.zero, i.size, i.bytes)) = some (some (.int .i64 0), 1, 8) := by kernel_rfl
-- the values' own types

end Go.Proofs.Ytemgfcpambbanaa.PT
