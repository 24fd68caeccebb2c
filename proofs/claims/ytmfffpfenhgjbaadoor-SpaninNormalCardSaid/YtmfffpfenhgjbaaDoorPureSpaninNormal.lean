/- The law SpaninNormal, as a statement of bytes. -/
import Derived.Test.YtmfffpfenhgjbaaDoorPParse
import Derived.Test.YtmfffpfenhgjbaaDoorX23
set_option linter.unusedSimpArgs false
set_option linter.unusedVariables false
namespace Go.Proofs.YtmfffpfenhgjbaaDoor.Pure
open Go.RowKit Go.Lib Go.Proofs.YtmfffpfenhgjbaaDoor.X Go.Proofs.YtmfffpfenhgjbaaDoor.G Go.Proofs.YtmfffpfenhgjbaaDoorW.PrintWords Go.Proofs.YtmfffpfenhgjbaaDoorW.PrintLast Go.Proofs.YtmfffpfenhgjbaaDoorW.PrintMore
theorem SpaninNormal (a0 : ByteArray) (h0 : a0.size ≤ 140737488351232) : ∃ k, emendationlaw08_SpaninNormal.f k a0 = some true := by
  refine ⟨2000 + 1, ?_⟩
  unfold emendationlaw08_SpaninNormal.f
  rw [awake08 _ (by omega), Option.bind_some, if_pos rfl]
  by_cases h : (a0.size : Int) > 300
  · rw [if_pos h, emendationlaw08_SpaninNormal.j0, if_pos rfl, awake08 _ (by omega)]; rfl
  · rw [if_neg h, Clean_eq a0 _ (by omega) (by omega), Option.bind_some, emendationlaw08_SpaninNormal.j0]
    cases hc : cleanL (L a0) with
    | false => rw [if_pos (by decide), awake08 _ (by omega)]; rfl
    | true =>
      obtain ⟨r1, r2, r3⟩ := clean_right _ hc
      change rightL (parseL (L a0)) = true at r1
      change parseL (L a0) = [] → _ at r3
      have hw := parse_wt (L a0)
      rw [← L_size] at hw
      rw [if_neg (by decide), Parse_eq a0 (by omega), Option.bind_some]
      unfold span_Right.f emendationref07_Right.f
      rw [if_pos (by omega), Option.bind_some, r1, if_pos rfl, Option.bind_some, if_pos rfl, L_toList]
      congr 1
      cases hp : parseL (L a0) with
      | nil => rw [r3 hp]; rfl
      | cons x t =>
        have hne : L a0 ≠ [] := by
          intro e
          rw [e] at hp
          have : parseL [] = [] := by unfold parseL; rw [rdL_nil]
          rw [this] at hp
          cases hp
        have e1 : (((x :: t).length : Int) == 0) = false := beq_eq_false_iff_ne.2 (by rw [List.length_cons]; omega)
        have e2 : (L a0 == []) = false := beq_eq_false_iff_ne.2 hne
        rw [e1, e2]
        rfl
end Go.Proofs.YtmfffpfenhgjbaaDoor.Pure
