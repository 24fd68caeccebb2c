/- ScriptDecodes: what it answers. -/
import Derived.Test.YtgiobiljneijiaaDoorGivenScriptL
namespace Go.Proofs.YtgiobiljneijiaaDoor.X
open Go.RowKit Go.Lib Go.Proofs Go.Proofs.YtgiobiljneijiaaDoor.G Go.Proofs.YtgiobiljneijiaaDoor.Pure Go.Proofs.YtgiobiljneijiaaDoorW.PrintWords Go.Proofs.YtgiobiljneijiaaDoorW.PrintLast Go.Proofs.YtgiobiljneijiaaDoorW.PrintMore
/-- ScriptDecodes, of texts that can be. -/
def emendationlaw22_ScriptDecodes.f (a0 : ByteArray) : Option Bool := if a0.size ≤ 140737488351232 then some true else none
theorem emendationlaw22_ScriptDecodes.calls (a0 : ByteArray) (r : Bool) (w : World) (h : emendationlaw22_ScriptDecodes.f a0 = some r) :
  Calls Tryd.prog 3 #[.string a0] w fun e w' => e = .returned (.bool r) ∧ Below w.heap.size w w' := by
  unfold emendationlaw22_ScriptDecodes.f at h
  by_cases hs : a0.size ≤ 140737488351232
  · rw [if_pos hs] at h
    obtain rfl := Option.some.inj h
    exact decodes_any a0 w (Nat.le_trans hs (by decide))
  · rw [if_neg hs] at h; cases h
end Go.Proofs.YtgiobiljneijiaaDoor.X
