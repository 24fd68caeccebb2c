-- Written by a program of this session (wip/mkprint.py over the kit's print) out of the translation; Lean checks it.
import Derived.Test.YtmamjecpjookoaaDoorProg
import Derived.Below
import Derived.Deep.Draws
import Derived.Deep.AppendLies
import Derived.Maps.AppendAt
import Derived.OwnWalk
import Derived.Laws.BytesArg
import Derived.Laws.MakeOwn
import Derived.Laws.OwnMore
import Derived.Deep.OwnRows
import Derived.Tactics
import Derived.Lib.ConvBytes
import Derived.Laws.Slices
import Derived.WalkKit
import Derived.KernelRfl
import Derived.RowKit3
import Derived.Deep.LoopGhost
import Derived.Deep.QuietTactic
import Derived.BigQuiet
import Derived.WideLaws
import Derived.Deep.DeepCutAuto
import Derived.Deep.CutBlock
import Derived.Deep.RegionHeld3
import Derived.Laws.Rows
import Derived.Lib.AppendStr
import Derived.ArgAppend
import Derived.Laws.IdiomCopy
import Derived.OrdersHeld
import Derived.Laws.BitsLemmas
import Derived.RowKit
import Derived.Test.YtmamjecpjookoaaDoorGivenA
import Derived.Test.YtmamjecpjookoaaDoorGivenConv
import Derived.Test.YtmamjecpjookoaaDoorGivenUtf
import Derived.Test.YtmamjecpjookoaaDoorGivenUtfV
import Derived.Test.YtmamjecpjookoaaDoorGivenUtfW
import Derived.Test.YtmamjecpjookoaaDoorGivenUtfZ
import Derived.Test.YtmamjecpjookoaaDoorWWords
import Derived.Test.YtmamjecpjookoaaDoorWLast
import Derived.Test.YtmamjecpjookoaaDoorWTab
import Derived.Test.YtmamjecpjookoaaDoorWFour
import Derived.Test.YtmamjecpjookoaaDoorWQPut
import Derived.Test.YtmamjecpjookoaaDoorWApart
import Derived.Test.YtmamjecpjookoaaDoorWArr
import Derived.Test.YtmamjecpjookoaaDoorWZeros
import Derived.Test.YtmamjecpjookoaaDoorWFoot
import Derived.Test.YtmamjecpjookoaaDoorWKept
import Derived.Test.YtmamjecpjookoaaDoorWShare
import Derived.Test.YtmamjecpjookoaaDoorWN
import Derived.Test.YtmamjecpjookoaaDoorWFootNe
import Derived.Test.YtmamjecpjookoaaDoorWAt
import Derived.Test.YtmamjecpjookoaaDoorWEqStruct
import Derived.Test.YtmamjecpjookoaaDoorWRepsOne
import Derived.Test.YtmamjecpjookoaaDoorWInv
import Derived.Test.YtmamjecpjookoaaDoorWInvWords
import Derived.Test.YtmamjecpjookoaaDoorWGuard
import Derived.Test.YtmamjecpjookoaaDoorWNEv
import Derived.Test.YtmamjecpjookoaaDoorWMore
namespace Go.Proofs.YtmamjecpjookoaaDoor.X
open Go.RowKit Go.Proofs.YtmamjecpjookoaaDoor.G Go.Proofs.YtmamjecpjookoaaDoorW.PrintWords Go.Proofs.YtmamjecpjookoaaDoorW.PrintLast Go.Proofs.YtmamjecpjookoaaDoorW.PrintMore
attribute [local go_sem] max2_int min2_int max_two min_two max_three min_three max_four min_four   -- for this text's walks alone
set_option linter.unusedVariables false
set_option linter.unusedSimpArgs false



def errW : Option Int → Value
  | none => .nilIface
  | some c => .iface 0 (.int .i64 c)
theorem errW_none : errW none = .nilIface := rfl
theorem errW_some (c : Int) : errW (some c) = .iface 0 (.int .i64 c) := rfl

theorem info5 : (Tryd.prog.info? 5).map (fun i => (i.zero, i.size, i.bytes)) = some (some (.int .u8 0), 1, 1) := by kernel_rfl
-- the values' own types

end Go.Proofs.YtmamjecpjookoaaDoor.X
