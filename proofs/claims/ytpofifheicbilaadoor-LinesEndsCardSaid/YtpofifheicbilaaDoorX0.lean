-- Written by a program of this session (wip/mkprint.py over the kit's print) out of the translation; Lean checks it.
import Derived.Test.YtpofifheicbilaaDoorProg
import Derived.Below
import Derived.Deep.Draws
import Derived.Deep.AppendLies
import Derived.Maps.AppendAt
import Derived.OwnWalk
import Derived.Laws.BytesArg
import Derived.Laws.MakeOwn
import Derived.Laws.OwnMore
import Derived.Deep.OwnRows
import Derived.Tactics
import Derived.Lib.ConvBytes
import Derived.Laws.Slices
import Derived.WalkKit
import Derived.KernelRfl
import Derived.RowKit3
import Derived.Deep.LoopGhost
import Derived.Deep.QuietTactic
import Derived.BigQuiet
import Derived.WideLaws
import Derived.Deep.DeepCutAuto
import Derived.Deep.CutBlock
import Derived.Deep.RegionHeld3
import Derived.Laws.Rows
import Derived.Lib.AppendStr
import Derived.ArgAppend
import Derived.Laws.IdiomCopy
import Derived.OrdersHeld
import Derived.Laws.BitsLemmas
import Derived.RowKit
import Derived.Test.YtpofifheicbilaaDoorGivenA
import Derived.Test.YtpofifheicbilaaDoorGivenLines
import Derived.Test.YtpofifheicbilaaDoorWWords
import Derived.Test.YtpofifheicbilaaDoorWLast
import Derived.Test.YtpofifheicbilaaDoorWTab
import Derived.Test.YtpofifheicbilaaDoorWFour
import Derived.Test.YtpofifheicbilaaDoorWQPut
import Derived.Test.YtpofifheicbilaaDoorWApart
import Derived.Test.YtpofifheicbilaaDoorWArr
import Derived.Test.YtpofifheicbilaaDoorWZeros
import Derived.Test.YtpofifheicbilaaDoorWFoot
import Derived.Test.YtpofifheicbilaaDoorWKept
import Derived.Test.YtpofifheicbilaaDoorWShare
import Derived.Test.YtpofifheicbilaaDoorWN
import Derived.Test.YtpofifheicbilaaDoorWFootNe
import Derived.Test.YtpofifheicbilaaDoorWAt
import Derived.Test.YtpofifheicbilaaDoorWEqStruct
import Derived.Test.YtpofifheicbilaaDoorWRepsOne
import Derived.Test.YtpofifheicbilaaDoorWInv
import Derived.Test.YtpofifheicbilaaDoorWInvWords
import Derived.Test.YtpofifheicbilaaDoorWGuard
import Derived.Test.YtpofifheicbilaaDoorWNEv
import Derived.Test.YtpofifheicbilaaDoorWMore
namespace Go.Proofs.YtpofifheicbilaaDoor.X
open Go.RowKit Go.Proofs.YtpofifheicbilaaDoor.G Go.Proofs.YtpofifheicbilaaDoorW.PrintWords Go.Proofs.YtpofifheicbilaaDoorW.PrintLast Go.Proofs.YtpofifheicbilaaDoorW.PrintMore
attribute [local go_sem] max2_int min2_int max_two min_two max_three min_three max_four min_four   -- for this text's walks alone
set_option linter.unusedVariables false
set_option linter.unusedSimpArgs false



def errW : Option Int → Value
  | none => .nilIface
  | some c => .iface 0 (.int .i64 c)
theorem errW_none : errW none = .nilIface := rfl
theorem errW_some (c : Int) : errW (some c) = .iface 0 (.int .i64 c) := rfl

theorem info5 : (Tryd.prog.info? 5).map (fun i => (i.zero, i.size, i.bytes)) = some (some (.int .u8 0), 1, 1) := by kernel_rfl
theorem info9 : (Tryd.prog.info? 9).map (fun i => (i.zero, i.size, i.bytes)) = some (some (.string ⟨#[]⟩), 1, 16) := by kernel_rfl
-- the values' own types

end Go.Proofs.YtpofifheicbilaaDoor.X
