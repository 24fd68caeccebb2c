/- The plain law of TreeLabels: the walk shows it. -/
import Derived.Test.YtbbkjdcpmhpkjaaDoorX7
set_option linter.unusedVariables false
namespace Go.Proofs.YtbbkjdcpmhpkjaaDoor.Pure
open Go.RowKit Go.Lib Go.Proofs.YtbbkjdcpmhpkjaaDoor.X
theorem TreeLabels (a0 a1 : ByteArray) (a2 : Int) (h0 : a0.size ≤ 140737488351232) (h1 : a1.size ≤ 140737488351232) (h2 : (Lit.int .i64 a2).wf = true) : emendationlaw10_TreeLabels.f a0 a1 a2 = some true := if_pos ⟨h0, h1⟩
end Go.Proofs.YtbbkjdcpmhpkjaaDoor.Pure
