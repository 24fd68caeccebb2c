/- The law SpanoutAgain, as a statement of bytes. -/
import Derived.Test.YtmfffpfenhgjbaaDoorPAwake09
import Derived.Test.YtmfffpfenhgjbaaDoorX19
set_option linter.unusedSimpArgs false
set_option linter.unusedVariables false
namespace Go.Proofs.YtmfffpfenhgjbaaDoor.Pure
open Go.RowKit Go.Lib Go.Proofs.YtmfffpfenhgjbaaDoor.X Go.Proofs.YtmfffpfenhgjbaaDoor.G Go.Proofs.YtmfffpfenhgjbaaDoorW.PrintWords Go.Proofs.YtmfffpfenhgjbaaDoorW.PrintLast Go.Proofs.YtmfffpfenhgjbaaDoorW.PrintMore
theorem SpanoutAgain (a0 : ByteArray) (h0 : a0.size ≤ 140737488351232) : ∃ k, emendationlaw09_SpanoutAgain.f k a0 = some true := by
  refine ⟨2000 + 1, ?_⟩
  unfold emendationlaw09_SpanoutAgain.f
  rw [awake09, Option.bind_some, if_pos rfl]
  by_cases h : (a0.size : Int) > 200
  · rw [if_pos h, emendationlaw09_SpanoutAgain.j0, if_pos rfl, awake09]; rfl
  · rw [if_neg h, Clean_eq a0 _ (by omega) (by omega), Option.bind_some, emendationlaw09_SpanoutAgain.j0]
    cases hc : cleanL (L a0) with
    | false => rw [if_pos (by decide), awake09]; rfl
    | true =>
      have r1 : rightL (parseL (L a0)) = true := (clean_right _ hc).1
      have hw := parse_wt (L a0)
      rw [← L_size] at hw
      have hz := wr_len (parseL (L a0))
      rw [if_neg (by decide), Parse_eq a0 (by omega), Option.bind_some, Write_eq _ (by omega), r1, if_pos rfl, Option.bind_some]
      dsimp only
      rw [Parse_eq _ (by rw [size_mk]; omega), Option.bind_some, L_mk, parse_back _ r1, Write_eq _ (by omega), r1, if_pos rfl, Option.bind_some]
      dsimp only
      rw [if_pos rfl, if_pos rfl, if_pos rfl]
      unfold emendationref07_Same.f
      rw [Option.bind_some, same_refl]
end Go.Proofs.YtmfffpfenhgjbaaDoor.Pure
