/- ScriptSkips: what it answers. -/
import Derived.Test.YtgiobiljneijiaaDoorGivenScriptS
namespace Go.Proofs.YtgiobiljneijiaaDoor.X
open Go.RowKit Go.Lib Go.Proofs Go.Proofs.YtgiobiljneijiaaDoor.G Go.Proofs.YtgiobiljneijiaaDoor.Pure Go.Proofs.YtgiobiljneijiaaDoorW.PrintWords Go.Proofs.YtgiobiljneijiaaDoorW.PrintLast Go.Proofs.YtgiobiljneijiaaDoorW.PrintMore
/-- ScriptSkips, of texts and bytes that can be. -/
def emendationlaw22_ScriptSkips.f (a0 : ByteArray) (a1 a2 : Int) : Option Bool := if a0.size ≤ 140737488351232 ∧ 0 ≤ a1 ∧ a1 < 256 ∧ 0 ≤ a2 ∧ a2 < 256 then some true else none
theorem emendationlaw22_ScriptSkips.calls (a0 : ByteArray) (a1 : Int) (a2 : Int) (r : Bool) (w : World) (h : emendationlaw22_ScriptSkips.f a0 a1 a2 = some r) :
  Calls Tryd.prog 4 #[.string a0, .int .u8 a1, .int .u8 a2] w fun e w' => e = .returned (.bool r) ∧ Below w.heap.size w w' := by
  unfold emendationlaw22_ScriptSkips.f at h
  by_cases hs : a0.size ≤ 140737488351232 ∧ 0 ≤ a1 ∧ a1 < 256 ∧ 0 ≤ a2 ∧ a2 < 256
  · rw [if_pos hs] at h
    obtain rfl := Option.some.inj h
    exact skips_any a0 a1 a2 w hs.1 hs.2.1 hs.2.2.1 hs.2.2.2.1 hs.2.2.2.2
  · rw [if_neg hs] at h; cases h
end Go.Proofs.YtgiobiljneijiaaDoor.X
