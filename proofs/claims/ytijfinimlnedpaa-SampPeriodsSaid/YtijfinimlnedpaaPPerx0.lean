-- An own text of this claim, written by wip/tools/surro.py over the kit's print.
import Derived.Test.YtijfinimlnedpaaProg
import Derived.Below
import Derived.Deep.Draws
import Derived.Deep.AppendLies
import Derived.Maps.AppendAt
import Derived.OwnWalk
import Derived.Laws.BytesArg
import Derived.Laws.MakeOwn
import Derived.Laws.OwnMore
import Derived.Deep.OwnRows
import Derived.Tactics
import Derived.Lib.ConvBytes
import Derived.Laws.Slices
import Derived.WalkKit
import Derived.KernelRfl
import Derived.RowKit3
import Derived.Deep.LoopGhost
import Derived.Deep.QuietTactic
import Derived.BigQuiet
import Derived.WideLaws
import Derived.Deep.DeepCutAuto
import Derived.Deep.CutBlock
import Derived.Deep.RegionHeld3
import Derived.Laws.Rows
import Derived.Lib.AppendStr
import Derived.ArgAppend
import Derived.Laws.IdiomCopy
import Derived.OrdersHeld
import Derived.Laws.BitsLemmas
import Derived.RowKit
import Derived.Test.YtijfinimlnedpaaWWords
import Derived.Test.YtijfinimlnedpaaWLast
import Derived.Test.YtijfinimlnedpaaWTab
import Derived.Test.YtijfinimlnedpaaWFour
import Derived.Test.YtijfinimlnedpaaWQPut
import Derived.Test.YtijfinimlnedpaaWApart
import Derived.Test.YtijfinimlnedpaaWArr
import Derived.Test.YtijfinimlnedpaaWZeros
import Derived.Test.YtijfinimlnedpaaWFoot
import Derived.Test.YtijfinimlnedpaaWKept
import Derived.Test.YtijfinimlnedpaaWShare
import Derived.Test.YtijfinimlnedpaaWN
import Derived.Test.YtijfinimlnedpaaWFootNe
import Derived.Test.YtijfinimlnedpaaWAt
import Derived.Test.YtijfinimlnedpaaWEqStruct
import Derived.Test.YtijfinimlnedpaaWRepsOne
import Derived.Test.YtijfinimlnedpaaWInv
import Derived.Test.YtijfinimlnedpaaWInvWords
import Derived.Test.YtijfinimlnedpaaWGuard
import Derived.Test.YtijfinimlnedpaaWNEv
import Derived.Test.YtijfinimlnedpaaWMore
namespace Go.Proofs.Ytijfinimlnedpaa.PPer
open Go.RowKit Go.Proofs.YtijfinimlnedpaaW.PrintWords Go.Proofs.YtijfinimlnedpaaW.PrintLast Go.Proofs.YtijfinimlnedpaaW.PrintMore
attribute [local go_sem] max2_int min2_int max_two min_two max_three min_three max_four min_four   -- for this text's walks alone
set_option linter.unusedVariables false
set_option linter.unusedSimpArgs false



def errW : Option Int → Value
  | none => .nilIface
  | some c => .iface 0 (.int .i64 c)
theorem errW_none : errW none = .nilIface := rfl
theorem errW_some (c : Int) : errW (some c) = .iface 0 (.int .i64 c) := rfl

theorem info3 : (Try.prog.info? 3).map (fun i => (i.zero, i.size, i.bytes)) = some (some (.int .i64 0), 1, 8) := by kernel_rfl
-- the values' own types

end Go.Proofs.Ytijfinimlnedpaa.PPer
