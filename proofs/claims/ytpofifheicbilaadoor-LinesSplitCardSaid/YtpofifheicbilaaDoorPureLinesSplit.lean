/- The law LinesSplit, as a statement of lists of bytes: any text has the lines that the document says; any lines are joined as it says. -/
import Derived.Test.YtpofifheicbilaaDoorPMore02
namespace Go.Proofs.YtpofifheicbilaaDoor.Pure
open Go.RowKit Go.Proofs.YtpofifheicbilaaDoor.X Go.Proofs.YtpofifheicbilaaDoor.G Go.Proofs.YtpofifheicbilaaDoorW.PrintWords Go.Proofs.YtpofifheicbilaaDoorW.PrintLast Go.Proofs.YtpofifheicbilaaDoorW.PrintMore
theorem LinesSplit (a0 : ByteArray) (l1 : List ByteArray) (a2 : Bool) (w0 : a0.size ≤ 140737488351232) : ∃ k, emendationlaw02_LinesSplit.f k a0 l1 a2 = some true := by
  obtain ⟨K, hK⟩ : ∃ K : Nat, 2 * a0.size + 19999 ≤ K := ⟨_, Nat.le_refl _⟩
  refine ⟨K + 1, ?_⟩
  unfold emendationlaw02_LinesSplit.f
  rw [awake_eq _ (by omega)]
  simp only [Option.bind_some, if_true]
  have hj : ∀ b, (b = false → (a0.size : Int) ≤ 5000 ∧ small l1) → emendationlaw02_LinesSplit.j0 (K + 1) a0 l1 a2 b = some true := by
    intro b hb
    simp only [emendationlaw02_LinesSplit.j0]
    cases b with
    | true => rw [if_pos rfl, awake_eq _ (by omega)]; rfl
    | false =>
      obtain ⟨hs, hl⟩ := hb rfl
      have hl1 := hl.1
      rw [if_neg (by decide)]
      obtain ⟨r, hr, hrm⟩ := lines_Split_eq a0 K (by omega) (by omega)
      obtain ⟨q, hq, hqm⟩ := ref_Split_eq a0 K (by omega) (by omega)
      have hlen : r.length ≤ a0.size + 1 := by
        have := spl_length (L a0) false []
        rw [← hrm, List.length_map, ← L_size] at this
        exact this
      rw [hr, hq]
      simp only [Option.bind_some]
      rw [Same_eq r q _ (by omega) (by omega), hrm, hqm]
      simp only [Option.bind_some, decide_true, if_true, beq_self_eq_true]
      rw [lines_Join_eq l1 a2 hl, ref_Join_eq l1 a2 hl _ (by omega)]
      simp only [Option.bind_some, beq_self_eq_true]
  by_cases h : (a0.size : Int) > 5000
  · rw [if_pos h]; exact hj true (fun h => by cases h)
  · rw [if_neg h]
    obtain ⟨r, hr, hm⟩ := few_eq l1 (K + 1) (by omega)
    rw [hr]
    simp only [Option.bind_some]
    refine hj (!r) (fun hb => ⟨by omega, hm (by cases r <;> simp_all)⟩)
end Go.Proofs.YtpofifheicbilaaDoor.Pure
