/- The law UtfFolds, as a statement of lists of bytes: folded one by one, with a space between, texts are folded as they are together. -/
import Derived.Test.YtmamjecpjookoaaDoorPUtfF
namespace Go.Proofs.YtmamjecpjookoaaDoor.Pure
open Go.RowKit Go.Lib Go.Proofs.YtmamjecpjookoaaDoor.X Go.Proofs.YtmamjecpjookoaaDoor.G Go.Proofs.YtmamjecpjookoaaDoorW.PrintWords Go.Proofs.YtmamjecpjookoaaDoorW.PrintLast Go.Proofs.YtmamjecpjookoaaDoorW.PrintMore
theorem UtfFolds (a0 a1 : ByteArray) (_h0 : a0.size ≤ 140737488351232) (_h1 : a1.size ≤ 140737488351232) : ∃ k, emendationlaw01_UtfFolds.f k a0 a1 = some true := by
  refine ⟨(a0.size + a1.size + 40) + 1, ?_⟩
  unfold emendationlaw01_UtfFolds.f emendationlaw01_awake.f
  rw [Option.bind_some, if_pos rfl]
  simp only [emendationlaw01_UtfFolds.j0]
  rw [wrap_small (by omega) (by omega)]
  by_cases h : (a0.size : Int) + (a1.size : Int) > 2000
  · rw [if_pos (by simpa using h)]; rfl
  · rw [if_neg (by simpa using h)]
    have hx : (⟨(foldV (L a0)).toArray⟩ : ByteArray).size ≤ a0.size := by rw [L_size, L_mk, L_size a0]; exact fold_length _
    have hy : (⟨(foldV (L a1)).toArray⟩ : ByteArray).size ≤ a1.size := by rw [L_size, L_mk, L_size a1]; exact fold_length _
    have h32 : (⟨#[32, 10]⟩ : ByteArray).size = 2 := rfl
    have h9 : (⟨#[9]⟩ : ByteArray).size = 1 := rfl
    have h1 : (⟨#[32]⟩ : ByteArray).size = 1 := rfl
    have e1 := fold_join (L a0) [32, 10] (L a1) (by simp) (by decide)
    have e2 := fold_join (L a1) [9] (L a0) (by simp) (by decide)
    rw [utf_Fold_eq a0 (by omega) _ (by omega), Option.bind_some, utf_Fold_eq a1 (by omega) _ (by omega), Option.bind_some, if_pos (by omega), if_pos (by rw [size_append, h32]; omega), utf_Fold_eq _ (by rw [size_append, size_append, h32]; omega) _ (by rw [size_append, size_append, h32]; omega), Option.bind_some]
    rw [L_append, L_append, show L (⟨#[32, 10]⟩ : ByteArray) = [32, 10] from rfl, e1]
    simp only [L_toList, L_mk, L_append]
    by_cases hxe : foldV (L a0) = []
    · rw [if_pos hxe, if_pos hxe, if_pos (by omega), hxe]; simp
    · rw [if_neg hxe, if_neg hxe]
      by_cases hye : foldV (L a1) = []
      · rw [if_pos hye, if_pos hye, if_pos (by omega), hye]; simp
      · rw [if_neg hye, if_neg hye, if_pos (by omega), if_pos (by rw [size_append, h1]; omega), if_pos rfl, if_pos (by omega), if_pos (by rw [size_append, h9]; omega)]
        rw [utf_Fold_eq _ (by rw [size_append, size_append, h9]; omega) _ (by rw [size_append, size_append, h9]; omega), Option.bind_some, L_append, L_append, show L (⟨#[9]⟩ : ByteArray) = [9] from rfl, e2, if_neg hye, if_neg hxe, if_pos (by omega), if_pos (by rw [size_append, h1]; omega)]
        simp [L_mk]
end Go.Proofs.YtmamjecpjookoaaDoor.Pure
