/- The law UtfNext, as a statement of lists of bytes: at any place stands the character that the reference says, or none. -/
import Derived.Test.YtmamjecpjookoaaDoorPUtf1
namespace Go.Proofs.YtmamjecpjookoaaDoor.Pure
open Go.RowKit Go.Lib Go.Proofs.YtmamjecpjookoaaDoor.X Go.Proofs.YtmamjecpjookoaaDoor.G Go.Proofs.YtmamjecpjookoaaDoorW.PrintWords Go.Proofs.YtmamjecpjookoaaDoorW.PrintLast Go.Proofs.YtmamjecpjookoaaDoorW.PrintMore
theorem UtfNext (a0 : ByteArray) (a1 : Int) (h0 : a0.size ≤ 140737488351232) (_h1 : (Lit.int .i64 a1).wf = true) : ∃ k, emendationlaw01_UtfNext.f k a0 a1 = some true := by
  refine ⟨0 + 20, ?_⟩
  unfold emendationlaw01_UtfNext.f emendationlaw01_awake.f
  rw [Option.bind_some, if_pos rfl]
  by_cases h : a1 < 0
  · rw [utf_Next_neg a0 a1 19 h, Option.bind_some, ref_Next_neg a0 a1 19 h, Option.bind_some]
    rfl
  · obtain ⟨i, rfl⟩ := Int.eq_ofNat_of_zero_le (show 0 ≤ a1 by omega)
    rw [utf_Next_nat a0 i 19 h0, Option.bind_some, ref_Next_nat a0 h0 i 0, Option.bind_some]
    simp
end Go.Proofs.YtmamjecpjookoaaDoor.Pure
