/- The law LinesParts, as a statement of lists of bytes: a text with a line end, and another one behind it, have the lines of both. -/
import Derived.Test.YtpofifheicbilaaDoorPMore02
namespace Go.Proofs.YtpofifheicbilaaDoor.Pure
open Go.RowKit Go.Proofs.YtpofifheicbilaaDoor.X Go.Proofs.YtpofifheicbilaaDoor.G Go.Proofs.YtpofifheicbilaaDoorW.PrintWords Go.Proofs.YtpofifheicbilaaDoorW.PrintLast Go.Proofs.YtpofifheicbilaaDoorW.PrintMore
theorem Parts_j0 (a0 a1 : ByteArray) (K : Nat) (h : a0.size + a1.size ≤ 2000) (hK : 9999 ≤ K) : emendationlaw02_LinesParts.j0 (K + 1) a0 a1 false = some true := by
  simp only [emendationlaw02_LinesParts.j0]
  rw [if_neg (by decide), if_pos (by omega)]
  have hL10 : L (⟨#[10]⟩ : ByteArray) = [10] := rfl
  have h10 : (⟨#[10]⟩ : ByteArray).size = 1 := rfl
  have hs1 : (a0 ++ (⟨#[10]⟩ : ByteArray)).size = a0.size + 1 := by rw [size_append, h10]
  have hs2 : (a0 ++ (⟨#[10]⟩ : ByteArray) ++ a1).size = a0.size + 1 + a1.size := by rw [size_append, hs1]
  obtain ⟨x, hx, hxm⟩ := lines_Split_eq (a0 ++ (⟨#[10]⟩ : ByteArray)) K (by omega) (by omega)
  obtain ⟨y, hy, hym⟩ := lines_Split_eq a1 K (by omega) (by omega)
  obtain ⟨z, hz, hzm⟩ := lines_Split_eq (a0 ++ (⟨#[10]⟩ : ByteArray) ++ a1) K (by omega) (by omega)
  rw [L_append, hL10] at hx hxm
  rw [L_append, L_append, hL10] at hz hzm
  have hsp := spl_append (L a0) (L a1) false [] (fun h => by cases h)
  have hassoc : L a0 ++ [10] ++ L a1 = L a0 ++ 10 :: L a1 := by simp
  rw [hassoc, hsp] at hz hzm
  have lx := spl_length (L a0 ++ [10]) false []
  have ly := spl_length (L a1) false []
  rw [← hxm, List.length_map, List.length_append, ← L_size] at lx
  rw [← hym, List.length_map, ← L_size] at ly
  simp only [List.length_cons, List.length_nil] at lx
  have hzxy : z.map L = (x ++ y).map L := by rw [hzm, List.map_append, hxm, hym]
  have lz : z.length = x.length + y.length := by have := congrArg List.length hzxy; simpa using this
  have hxpos : 0 < x.length := by
    have := spl_pos (L a0) false []
    rw [← hxm, List.length_map] at this
    exact this (fun h => by cases h)
  rw [hx, hy]
  simp only [Option.bind_some]
  rw [hs1, if_pos (by omega), hz]
  simp only [Option.bind_some, List.nil_append, List.length_nil]
  have fin : (if 0 + x.length < 8796093022208 then if x.length + y.length < 8796093022208 then (emendationref02_Same.f K z (x ++ y)).bind fun t => if t = true then if a1.toList = [] then some true else some ((spl false [] (L a1)).2 == (spl false [] (L a1)).2) else some false else none else none) = some true := by
    rw [if_pos (by omega), if_pos (by omega), Same_eq z (x ++ y) _ (by omega) (by omega), hzxy]
    simp
  by_cases h0 : (a0.size : Int) > 0
  · rw [if_pos h0, wrap_small (by omega) (by omega), if_pos (by omega), if_pos (by omega)]
    by_cases h13 : bt a0 ((a0.size : Int) - 1) = 13
    · rw [if_pos h13, decide_eq_true (by omega)]
    · rw [if_neg h13]; exact fin
  · rw [if_neg h0]; exact fin
theorem LinesParts (a0 : ByteArray) (a1 : ByteArray) (w0 : a0.size ≤ 140737488351232) (w1 : a1.size ≤ 140737488351232) : ∃ k, emendationlaw02_LinesParts.f k a0 a1 = some true := by
  obtain ⟨K, hK⟩ : ∃ K : Nat, 9999 ≤ K := ⟨_, Nat.le_refl _⟩
  refine ⟨K + 1, ?_⟩
  have hj : ∀ b, (b = false → a0.size + a1.size ≤ 2000) → emendationlaw02_LinesParts.j0 (K + 1) a0 a1 b = some true := by
    intro b hb
    cases b with
    | true => simp only [emendationlaw02_LinesParts.j0]; rw [if_pos trivial, awake_eq _ (by omega)]; rfl
    | false => exact Parts_j0 a0 a1 K (hb rfl) hK
  unfold emendationlaw02_LinesParts.f
  rw [awake_eq _ (by omega), Option.bind_some, if_pos rfl]
  refine hj _ (fun h => ?_)
  rw [sum_wrap w0 w1] at h
  have := of_decide_eq_false h
  omega
end Go.Proofs.YtpofifheicbilaaDoor.Pure
