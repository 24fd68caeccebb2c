/- The plain law of ScriptSkips: the walk shows it. -/
import Derived.Test.YtgiobiljneijiaaDoorX2
set_option linter.unusedVariables false
namespace Go.Proofs.YtgiobiljneijiaaDoor.Pure
open Go.RowKit Go.Lib Go.Proofs.YtgiobiljneijiaaDoor.X
theorem u8_wf {a : Int} (h : (Lit.int .u8 a).wf = true) : 0 ≤ a ∧ a < 256 := by
  have b0 : 0 ≤ a ∧ a ≤ 255 := by simpa [Lit.wf, IntKind.min, IntKind.max, IntKind.signed, IntKind.bits, Int.lt_add_one_iff] using h
  omega
theorem ScriptSkips (a0 : ByteArray) (a1 a2 : Int) (h0 : a0.size ≤ 140737488351232) (h1 : (Lit.int .u8 a1).wf = true) (h2 : (Lit.int .u8 a2).wf = true) : emendationlaw22_ScriptSkips.f a0 a1 a2 = some true :=
  if_pos ⟨h0, (u8_wf h1).1, (u8_wf h1).2, (u8_wf h2).1, (u8_wf h2).2⟩
end Go.Proofs.YtgiobiljneijiaaDoor.Pure
