/- The law LinesRuns, as a statement of lists of bytes: the longest run of two texts, one behind the other, is one of theirs, or where they meet; a run at the beginning goes on, if the first one is nothing else. -/
import Derived.Test.YtpofifheicbilaaDoorPMore02
namespace Go.Proofs.YtpofifheicbilaaDoor.Pure
open Go.RowKit Go.Proofs.YtpofifheicbilaaDoor.X Go.Proofs.YtpofifheicbilaaDoor.G Go.Proofs.YtpofifheicbilaaDoorW.PrintWords Go.Proofs.YtpofifheicbilaaDoorW.PrintLast Go.Proofs.YtpofifheicbilaaDoorW.PrintMore
theorem Runs_j2 (a b : ByteArray) (c : Int) (k : Nat) (ha : a.size + b.size ≤ 2000) (hk : 2010 < k) : emendationlaw02_LinesRuns.j2 k a b c (tail (L a) c : Int) = some true := by
  obtain ⟨k, rfl⟩ : ∃ m, k = m + 1 := ⟨k - 1, by omega⟩
  have hsz : (a ++ b).size = a.size + b.size := size_append _ _
  simp only [emendationlaw02_LinesRuns.j2]
  rw [lines_Longest_eq a _ _ (by omega) (by omega), lines_Longest_eq b _ _ (by omega) (by omega), lines_Run_eq b _ _ (by omega) (by omega), lines_Run_eq a _ _ (by omega) (by omega), lines_Longest_eq (a ++ b) _ _ (by omega) (by omega), lines_Run_eq (a ++ b) _ _ (by omega) (by omega), L_append]
  simp only [Option.bind_some]
  have h1 := run_le (L a) c
  have h2 := run_le (L b) c
  have h3 : tail (L a) c ≤ (L a).length := by unfold tail; have := run_le (L a).reverse c; rwa [List.length_reverse] at this
  rw [← L_size] at h1 h3
  rw [← L_size] at h2
  have hm : (mx (mx (longest (L a) c : Int) (longest (L b) c : Int)) (wrap64 ((tail (L a) c : Int) + (run (L b) c : Int)))) = (longest (L a ++ L b) c : Int) := by
    rw [wrap_small (by omega) (by omega), mx_nat, show (tail (L a) c : Int) + (run (L b) c : Int) = ((tail (L a) c + run (L b) c : Nat) : Int) from by omega, mx_nat, longest_append]
  rw [hm, run_append, ← L_size]
  by_cases h : run (L a) c = a.size
  · rw [if_pos (by omega), if_pos (by omega), if_pos rfl, if_pos h]
    rw [wrap_small (by omega) (by omega)]
    simp only [Option.some.injEq, beq_iff_eq]
    omega
  · rw [if_neg (by omega), if_pos (by omega), if_pos rfl, if_neg h]
    simp
theorem Runs_l0 (a b : ByteArray) (c : Int) (ha : a.size + b.size ≤ 2000) : ∀ (d k i : Nat), i + d = a.size → d + 2011 < k → i + run ((L a).reverse.drop i) c = tail (L a) c → emendationlaw02_LinesRuns.l0 k a b c (i : Int) = some true := by
  intro d
  induction d with
  | zero =>
    intro k i h hk ht
    obtain ⟨k, rfl⟩ : ∃ m, k = m + 1 := ⟨k - 1, by omega⟩
    simp only [emendationlaw02_LinesRuns.l0]
    rw [List.drop_eq_nil_of_le (by rw [List.length_reverse, ← L_size]; omega), run_nil] at ht
    rw [if_neg (by omega), show (i : Int) = (tail (L a) c : Int) from by omega]
    exact Runs_j2 a b c k ha (by omega)
  | succ d ih =>
    intro k i h hk ht
    obtain ⟨k, rfl⟩ : ∃ m, k = m + 1 := ⟨k - 1, by omega⟩
    have hl := L_size a
    have hi : i < (L a).reverse.length := by rw [List.length_reverse]; omega
    have hj : a.size - 1 - i < (L a).length := by omega
    have hrev : (L a).reverse[i] = (L a)[a.size - 1 - i] := by
      rw [List.getElem_reverse]
      congr 1
    have hidx : wrap64 (wrap64 ((a.size : Int) - 1) - (i : Int)) = ((a.size - 1 - i : Nat) : Int) := by
      rw [wrap_small (x := (a.size : Int) - 1) (by omega) (by omega), wrap_small (by omega) (by omega)]
      omega
    simp only [emendationlaw02_LinesRuns.l0]
    rw [if_pos (by omega), hidx, if_pos (by omega), if_pos (by omega), bt_L a _ hj]
    rw [List.drop_eq_getElem_cons hi, run_cons, hrev] at ht
    by_cases hc : isB c ((L a)[a.size - 1 - i]) = true
    · rw [if_pos hc] at ht
      rw [if_pos ((isB_iff _ _).1 hc), wrap_small (by omega) (by omega), show (i : Int) + 1 = ((i + 1 : Nat) : Int) from by omega]
      exact ih k (i + 1) (by omega) (by omega) (by omega)
    · rw [if_neg hc] at ht
      rw [if_neg (fun h => hc ((isB_iff _ _).2 h)), show (i : Int) = (tail (L a) c : Int) from by omega]
      exact Runs_j2 a b c k ha (by omega)
theorem LinesRuns (a0 : ByteArray) (a1 : ByteArray) (a2 : Int) (w0 : a0.size ≤ 140737488351232) (w1 : a1.size ≤ 140737488351232) (_w2 : (Lit.int .u8 a2).wf = true) : ∃ k, emendationlaw02_LinesRuns.f k a0 a1 a2 = some true := by
  obtain ⟨K, hK⟩ : ∃ K : Nat, a0.size + 2019 ≤ K := ⟨_, Nat.le_refl _⟩
  refine ⟨K + 1, ?_⟩
  have hj : ∀ b, (b = false → a0.size + a1.size ≤ 2000) → emendationlaw02_LinesRuns.j0 (K + 1) a0 a1 a2 b = some true := by
    intro b hb
    simp only [emendationlaw02_LinesRuns.j0]
    cases b with
    | true => rw [if_pos rfl, awake_eq _ (by omega)]; rfl
    | false =>
      rw [if_neg (by decide)]
      exact Runs_l0 a0 a1 a2 (hb rfl) a0.size K 0 (by omega) (by omega) (by simp [tail])
  unfold emendationlaw02_LinesRuns.f
  rw [awake_eq _ (by omega), Option.bind_some, if_pos rfl]
  refine hj _ (fun h => ?_)
  rw [sum_wrap w0 w1] at h
  have := of_decide_eq_false h
  omega
end Go.Proofs.YtpofifheicbilaaDoor.Pure
