/- The words that the contracts of the label functions share. -/
import Derived.Test.YtkeiiaedikicdaaProg
import Derived.Below
import Derived.Deep.Draws
import Derived.Deep.AppendLies
import Derived.Maps.AppendAt
import Derived.OwnWalk
import Derived.Laws.BytesArg
import Derived.Laws.MakeOwn
import Derived.Laws.OwnMore
import Derived.Deep.OwnRows
import Derived.Tactics
import Derived.Lib.ConvBytes
import Derived.Laws.Slices
import Derived.WalkKit
import Derived.KernelRfl
import Derived.RowKit3
import Derived.Deep.LoopGhost
import Derived.Deep.QuietTactic
import Derived.BigQuiet
import Derived.WideLaws
import Derived.Deep.DeepCutAuto
import Derived.Deep.CutBlock
import Derived.Deep.RegionHeld3
import Derived.Laws.Rows
import Derived.Lib.AppendStr
import Derived.ArgAppend
import Derived.Laws.IdiomCopy
import Derived.OrdersHeld
import Derived.Laws.BitsLemmas
import Derived.RowKit
import Derived.Test.YtkeiiaedikicdaaWWords
import Derived.Test.YtkeiiaedikicdaaWLast
import Derived.Test.YtkeiiaedikicdaaWTab
import Derived.Test.YtkeiiaedikicdaaWFour
import Derived.Test.YtkeiiaedikicdaaWQPut
import Derived.Test.YtkeiiaedikicdaaWApart
import Derived.Test.YtkeiiaedikicdaaWArr
import Derived.Test.YtkeiiaedikicdaaWZeros
import Derived.Test.YtkeiiaedikicdaaWFoot
import Derived.Test.YtkeiiaedikicdaaWKept
import Derived.Test.YtkeiiaedikicdaaWShare
import Derived.Test.YtkeiiaedikicdaaWN
import Derived.Test.YtkeiiaedikicdaaWFootNe
import Derived.Test.YtkeiiaedikicdaaWAt
import Derived.Test.YtkeiiaedikicdaaWEqStruct
import Derived.Test.YtkeiiaedikicdaaWRepsOne
import Derived.Test.YtkeiiaedikicdaaWInv
import Derived.Test.YtkeiiaedikicdaaWInvWords
import Derived.Test.YtkeiiaedikicdaaWGuard
import Derived.Test.YtkeiiaedikicdaaWNEv
import Derived.Test.YtkeiiaedikicdaaWMore
namespace Go.Proofs.Ytkeiiaedikicdaa.PL
open Go.RowKit Go.Proofs.YtkeiiaedikicdaaW.PrintWords Go.Proofs.YtkeiiaedikicdaaW.PrintLast Go.Proofs.YtkeiiaedikicdaaW.PrintMore
attribute [local go_sem] max2_int min2_int max_two min_two max_three min_three max_four min_four   -- for this text's walks alone
set_option linter.unusedVariables false
set_option linter.unusedSimpArgs false



def errW : Option Int → Value
  | none => .nilIface
  | some c => .iface 0 (.int .i64 c)
theorem errW_none : errW none = .nilIface := rfl
theorem errW_some (c : Int) : errW (some c) = .iface 0 (.int .i64 c) := rfl

-- the values' own types

end Go.Proofs.Ytkeiiaedikicdaa.PL
