/- ScriptEntries: what it answers. -/
import Derived.Test.YtgiobiljneijiaaDoorGivenScriptNG
namespace Go.Proofs.YtgiobiljneijiaaDoor.X
open Go.RowKit Go.Lib Go.Proofs Go.Proofs.YtgiobiljneijiaaDoor.G Go.Proofs.YtgiobiljneijiaaDoor.Pure Go.Proofs.YtgiobiljneijiaaDoorW.PrintWords Go.Proofs.YtgiobiljneijiaaDoorW.PrintLast Go.Proofs.YtgiobiljneijiaaDoorW.PrintMore
/-- ScriptEntries, of names, texts and bytes that can be. -/
def emendationlaw22_ScriptEntries.f (l0 : List Int) (a1 : ByteArray) (a2 a3 : Int) : Option Bool := if l0.all (fun x => decide (0 ≤ x ∧ x < 256)) = true ∧ a1.size ≤ 140737488351232 ∧ 0 ≤ a2 ∧ a2 < 256 ∧ 0 ≤ a3 ∧ a3 < 256 then some true else none
theorem emendationlaw22_ScriptEntries.calls (A0 : Option Addr) (c0 : Nat) (l0 : List Int) (a1 : ByteArray) (a2 : Int) (a3 : Int) (r : Bool) (w : World) (hr0 : Kd.C (Kd.int .u8) w A0 l0.length l0) (hc0 : l0.length ≤ c0) (h : emendationlaw22_ScriptEntries.f l0 a1 a2 a3 = some r) :
  Calls Tryd.prog 5 #[.slice A0 l0.length c0, .string a1, .int .u8 a2, .int .u8 a3] w fun e w' => e = .returned (.bool r) ∧ Below w.heap.size w w' := by
  unfold emendationlaw22_ScriptEntries.f at h
  by_cases hs : l0.all (fun x => decide (0 ≤ x ∧ x < 256)) = true ∧ a1.size ≤ 140737488351232 ∧ 0 ≤ a2 ∧ a2 < 256 ∧ 0 ≤ a3 ∧ a3 < 256
  · rw [if_pos hs] at h
    obtain rfl := Option.some.inj h
    exact entries_any A0 c0 l0 a1 a2 a3 w hr0 hc0 (fun x hx => of_decide_eq_true (List.all_eq_true.1 hs.1 x hx)) hs.2.1 hs.2.2.1 hs.2.2.2.1 hs.2.2.2.2.1 hs.2.2.2.2.2
  · rw [if_neg hs] at h; cases h
end Go.Proofs.YtgiobiljneijiaaDoor.X
