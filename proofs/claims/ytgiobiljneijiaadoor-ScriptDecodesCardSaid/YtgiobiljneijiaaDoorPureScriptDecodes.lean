/- The plain law of ScriptDecodes: the walk shows it. -/
import Derived.Test.YtgiobiljneijiaaDoorX1
set_option linter.unusedVariables false
namespace Go.Proofs.YtgiobiljneijiaaDoor.Pure
open Go.RowKit Go.Lib Go.Proofs.YtgiobiljneijiaaDoor.X
theorem ScriptDecodes (a0 : ByteArray) (h0 : a0.size ≤ 140737488351232) : emendationlaw22_ScriptDecodes.f a0 = some true := if_pos h0
end Go.Proofs.YtgiobiljneijiaaDoor.Pure
