/- The plain law of ScriptEntries: the walk shows it. -/
import Derived.Test.YtgiobiljneijiaaDoorX3
set_option linter.unusedVariables false
namespace Go.Proofs.YtgiobiljneijiaaDoor.Pure
open Go.RowKit Go.Lib Go.Proofs.YtgiobiljneijiaaDoor.X
theorem u8_wf_ {a : Int} (h : (Lit.int .u8 a).wf = true) : 0 ≤ a ∧ a < 256 := by
  have b0 : 0 ≤ a ∧ a ≤ 255 := by simpa [Lit.wf, IntKind.min, IntKind.max, IntKind.signed, IntKind.bits, Int.lt_add_one_iff] using h
  omega
theorem ScriptEntries (l0 : List Int) (a1 : ByteArray) (a2 a3 : Int) (h0 : ∀ x ∈ l0, (Lit.int .u8 x).wf = true) (h1 : a1.size ≤ 140737488351232) (h2 : (Lit.int .u8 a2).wf = true) (h3 : (Lit.int .u8 a3).wf = true) : emendationlaw22_ScriptEntries.f l0 a1 a2 a3 = some true :=
  if_pos ⟨List.all_eq_true.2 fun x hx => decide_eq_true (u8_wf_ (h0 x hx)), h1, (u8_wf_ h2).1, (u8_wf_ h2).2, (u8_wf_ h3).1, (u8_wf_ h3).2⟩
end Go.Proofs.YtgiobiljneijiaaDoor.Pure
