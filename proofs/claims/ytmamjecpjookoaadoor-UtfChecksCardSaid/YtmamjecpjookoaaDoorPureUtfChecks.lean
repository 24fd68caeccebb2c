/- The law UtfChecks, as a statement of lists of bytes: both answers are checkV. -/
import Derived.Test.YtmamjecpjookoaaDoorPUtf2
namespace Go.Proofs.YtmamjecpjookoaaDoor.Pure
open Go.RowKit Go.Lib Go.Proofs.YtmamjecpjookoaaDoor.X Go.Proofs.YtmamjecpjookoaaDoor.G Go.Proofs.YtmamjecpjookoaaDoorW.PrintWords Go.Proofs.YtmamjecpjookoaaDoorW.PrintLast Go.Proofs.YtmamjecpjookoaaDoorW.PrintMore
theorem UtfChecks (a0 : ByteArray) (h0 : a0.size ≤ 140737488351232) : ∃ k, emendationlaw01_UtfChecks.f k a0 = some true := by
  refine ⟨(2 * a0.size + 41) + 1, ?_⟩
  unfold emendationlaw01_UtfChecks.f emendationlaw01_awake.f
  rw [Option.bind_some, if_pos rfl]
  simp only [emendationlaw01_UtfChecks.j0]
  unfold emendationlaw01_awake.f
  split
  · rfl
  · rw [if_pos (by omega), utf_Check_eq a0 h0, Option.bind_some, ref_Check_eq a0 h0 _ (by omega), Option.bind_some]
    simp
end Go.Proofs.YtmamjecpjookoaaDoor.Pure
