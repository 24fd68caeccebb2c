/- What a program that does nothing answers wrongly: the opening of all laws of chapter 02. -/
import Derived.Test.YtpofifheicbilaaDoorPSplit2
namespace Go.Proofs.YtpofifheicbilaaDoor.Pure
open Go.RowKit Go.Proofs.YtpofifheicbilaaDoor.X Go.Proofs.YtpofifheicbilaaDoor.G Go.Proofs.YtpofifheicbilaaDoorW.PrintWords Go.Proofs.YtpofifheicbilaaDoorW.PrintLast Go.Proofs.YtpofifheicbilaaDoorW.PrintMore
theorem rdOf_zero {α : Type} (d x : α) (l : List α) : rdOf d (x :: l) 0 = x := rfl
theorem map_L_two {r : List ByteArray} {x y : List UInt8} (h : r.map L = [x, y]) : ∃ a b, r = [a, b] ∧ L a = x ∧ L b = y := by
  match r, h with
  | [a, b], h => simp at h; exact ⟨a, b, rfl, h.1, h.2⟩
theorem awake_eq (k : Nat) (hk : 10 < k) : emendationlaw02_awake.f k = some true := by
  unfold emendationlaw02_awake.f
  obtain ⟨r, h1, h2⟩ := lines_Split_eq (⟨#[97, 13, 10, 98]⟩ : ByteArray) k (by decide) (by show 4 < k; omega)
  have e : spl false [] (L (⟨#[97, 13, 10, 98]⟩ : ByteArray)) = ([[97], [98]], false) := by decide
  rw [e] at h1 h2
  obtain ⟨a, b, rfl, ha, hb⟩ := map_L_two h2
  rw [h1]
  simp only [Option.bind_some]
  rw [if_pos (by rfl), if_pos (by simp), rdOf_zero, L_toList, if_pos ha, if_neg (by decide), lines_Blank_eq _ (by decide), lines_Run_eq _ _ _ (by decide) (by show 3 < k; omega)]
  simp only [Option.bind_some]
  rw [show (trim (L (⟨#[32, 9]⟩ : ByteArray)) == []) = true by decide, if_pos rfl, show run (L (⟨#[35, 35, 97]⟩ : ByteArray)) 35 = 2 by decide]
  rfl
end Go.Proofs.YtpofifheicbilaaDoor.Pure
