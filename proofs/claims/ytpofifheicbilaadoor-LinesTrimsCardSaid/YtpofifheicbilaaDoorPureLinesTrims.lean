/- The law LinesTrims, as a statement of lists of bytes: what is trimmed has no space at its ends, and lies in the line; trimmed again it is the same. -/
import Derived.Test.YtpofifheicbilaaDoorPMore02
namespace Go.Proofs.YtpofifheicbilaaDoor.Pure
open Go.RowKit Go.Proofs.YtpofifheicbilaaDoor.X Go.Proofs.YtpofifheicbilaaDoor.G Go.Proofs.YtpofifheicbilaaDoorW.PrintWords Go.Proofs.YtpofifheicbilaaDoorW.PrintLast Go.Proofs.YtpofifheicbilaaDoorW.PrintMore
theorem LinesTrims (a0 : ByteArray) (a1 : Int) (w0 : a0.size ≤ 140737488351232) (_w1 : (Lit.int .u8 a1).wf = true) : ∃ k, emendationlaw02_LinesTrims.f k a0 a1 = some true := by
  obtain ⟨K, hK⟩ : ∃ K : Nat, 4 * a0.size + 19 ≤ K := ⟨_, Nat.le_refl _⟩
  refine ⟨K + 1, ?_⟩
  unfold emendationlaw02_LinesTrims.f
  rw [awake_eq _ (by omega)]
  simp only [Option.bind_some, if_true]
  simp only [emendationlaw02_LinesTrims.j0]
  by_cases h : (a0.size : Int) > 2000
  · rw [decide_eq_true h, if_pos rfl, awake_eq _ (by omega)]; rfl
  · have hsz : (⟨(trim (L a0)).toArray⟩ : ByteArray).size = (trim (L a0)).length := by rw [L_size, L_mk]
    have hle := trim_len (L a0)
    rw [← L_size] at hle
    have hss : (a0 ++ a0).size = a0.size + a0.size := size_append _ _
    have hlong : longest (L a0) a1 ≤ longest (L a0 ++ L a0) a1 := by rw [longest_append]; omega
    have hrun := run_le_longest (L a0) a1
    rw [decide_eq_false h, if_neg (by decide), lines_Trim_eq _ w0]
    simp only [Option.bind_some]
    rw [lines_Trim_eq _ (by omega)]
    simp only [Option.bind_some, L_toList, L_mk, trim_trim]
    rw [if_pos trivial, hsz, if_neg (by omega), lines_Run_eq _ _ _ w0 (by omega), lines_Longest_eq _ _ _ w0 (by omega)]
    simp only [Option.bind_some]
    rw [if_neg (by omega), if_pos (by omega), lines_Longest_eq (a0 ++ a0) _ _ (by omega) (by omega), L_append]
    simp only [Option.bind_some]
    obtain ⟨K, rfl⟩ : ∃ m, K = m + 1 := ⟨K - 1, by omega⟩
    rw [decide_eq_false (by omega)]
    simp only [emendationlaw02_LinesTrims.j1, Bool.false_eq_true, if_false, L_toList, L_mk]
    have hblank : lines_Blank.f a0 = some (trim (L a0) == []) := lines_Blank_eq a0 w0
    by_cases ht : trim (L a0) = []
    · rw [if_pos ht, hblank, ht]; rfl
    · rw [if_neg ht, hblank, hsz]
      obtain ⟨b, t, hbt⟩ : ∃ b t, trim (L a0) = b :: t := by
        cases hh : trim (L a0) with
        | nil => exact absurd hh ht
        | cons b t => exact ⟨b, t, rfl⟩
      obtain ⟨m, e, hme⟩ : ∃ m e, trim (L a0) = m ++ [e] := ⟨_, _, (List.dropLast_concat_getLast ht).symm⟩
      have h0 : bt (⟨(trim (L a0)).toArray⟩ : ByteArray) 0 = (b.toNat : Int) := (bt_drop _ 0 (b := b) (t := t) (by rw [L_mk, List.drop_zero]; exact hbt)).1
      have hn : (trim (L a0)).length = m.length + 1 := by rw [hme]; simp
      have h1 : bt (⟨(trim (L a0)).toArray⟩ : ByteArray) (m.length : Int) = (e.toNat : Int) := (bt_drop _ m.length (b := e) (t := []) (by rw [L_mk, hme, List.drop_left])).1
      have g0 := gapB_ne (trim_head (L a0) b t hbt)
      have g1 := gapB_ne (trim_last (L a0) e m hme)
      have hw : wrap64 (((trim (L a0)).length : Int) - 1) = (m.length : Int) := by rw [hn, wrap_small (by omega) (by omega)]; omega
      rw [if_pos (by omega), h0, if_neg g0.1, if_neg g0.2, hw, if_pos (by omega), if_pos (by omega), h1, if_neg g1.1, if_neg g1.2]
      simp only [Option.bind_some]
      rw [beq_eq_false_iff_ne.2 ht]
      rfl
end Go.Proofs.YtpofifheicbilaaDoor.Pure
