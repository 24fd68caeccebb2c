/- The law LinesTells, as a statement of lists of bytes: of any line it is told as the document says whether it is blank, what is left of it, and how long runs are. -/
import Derived.Test.YtpofifheicbilaaDoorPAwake02
namespace Go.Proofs.YtpofifheicbilaaDoor.Pure
open Go.RowKit Go.Proofs.YtpofifheicbilaaDoor.X Go.Proofs.YtpofifheicbilaaDoor.G Go.Proofs.YtpofifheicbilaaDoorW.PrintWords Go.Proofs.YtpofifheicbilaaDoorW.PrintLast Go.Proofs.YtpofifheicbilaaDoorW.PrintMore
theorem LinesTells (a0 : ByteArray) (a1 : Int) (w0 : a0.size ≤ 140737488351232) (_w1 : (Lit.int .u8 a1).wf = true) : ∃ k, emendationlaw02_LinesTells.f k a0 a1 = some true := by
  obtain ⟨K, hK⟩ : ∃ K : Nat, 2 * a0.size + 19 ≤ K := ⟨_, Nat.le_refl _⟩
  refine ⟨K + 1, ?_⟩
  unfold emendationlaw02_LinesTells.f
  rw [awake_eq _ (by omega)]
  simp only [Option.bind_some, if_true]
  simp only [emendationlaw02_LinesTells.j0]
  by_cases h : (a0.size : Int) > 2000
  · rw [decide_eq_true h, if_pos rfl, awake_eq _ (by omega)]; rfl
  · rw [decide_eq_false h, if_neg (by decide), lines_Blank_eq _ w0, ref_Trim_eq _ _ w0 (by omega), lines_Trim_eq _ w0, lines_Run_eq _ _ _ w0 (by omega), ref_Run_eq _ _ _ w0 (by omega), lines_Longest_eq _ _ _ w0 (by omega), ref_Longest_eq _ _ _ w0 (by omega)]
    simp only [Option.bind_some, L_toList, L_mk, beq_self_eq_true, if_true]
end Go.Proofs.YtpofifheicbilaaDoor.Pure
