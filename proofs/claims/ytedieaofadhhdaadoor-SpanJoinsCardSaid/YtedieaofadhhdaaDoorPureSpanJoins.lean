/- The law SpanJoins, as a statement of lists of spans. -/
import Derived.Test.YtedieaofadhhdaaDoorPAll
import Derived.Test.YtedieaofadhhdaaDoorX12
set_option linter.unusedSimpArgs false
set_option linter.unusedVariables false
namespace Go.Proofs.YtedieaofadhhdaaDoor.Pure
open Go.RowKit Go.Lib Go.Proofs.YtedieaofadhhdaaDoor.X Go.Proofs.YtedieaofadhhdaaDoor.G Go.Proofs.YtedieaofadhhdaaDoorW.PrintWords Go.Proofs.YtedieaofadhhdaaDoorW.PrintLast Go.Proofs.YtedieaofadhhdaaDoorW.PrintMore
theorem lines_append (a b : List S30) : linesL (a ++ b) = linesL a + linesL b - 1 := by
  unfold linesL
  rw [plainL_append, List.count_append]
  omega
theorem lines_bound (a : List S30) (h : wtL a ≤ 1000000) : 1 ≤ linesL a ∧ linesL a ≤ 1000001 := by
  have hp := plain_wt (SizeOf.sizeOf a + 1) a (by omega)
  have hc := List.count_le_length (l := plainL a) (a := (10 : UInt8))
  unfold linesL
  omega
theorem plain_emph (k : Int) (s : ByteArray) (h : ¬ (k = 1 ∨ k = 2)) (l : List S30) : plainL [(⟨k, s, l⟩ : S30)] = plainL l := by
  rw [plainL_cons, plainV_eq, if_neg h, plainL]
  simp
theorem SpanJoins (l0 l1 : List S30) (h0 : okL l0 ∧ l0.length ≤ 140737488351232) (h1 : okL l1 ∧ l1.length ≤ 140737488351232) : ∃ k, emendationlaw07_SpanJoins.f k l0 l1 = some true := by
  refine ⟨(2 * wtL l0 + 2 * wtL l1 + 200) + 1, ?_⟩
  unfold emendationlaw07_SpanJoins.f
  rw [awake07 _ (by omega), Option.bind_some, if_pos rfl, few07 _ _ h0.1 h0.2 (by omega), Option.bind_some, few07 _ _ h1.1 h1.2 (by omega)]
  have hA : ∀ k, 100 < k → emendationlaw07_SpanJoins.j0 (k + 1) l0 l1 true = some true := fun k hk => by rw [emendationlaw07_SpanJoins.j0, if_pos rfl, awake07 _ hk]; rfl
  cases hf0 : fewL l0 with
  | false => exact hA _ (by omega)
  | true =>
    rw [if_pos rfl, Option.bind_some]
    cases hf1 : fewL l1 with
    | false => exact hA _ (by omega)
    | true =>
      have w0 := few_wt l0 h0.1 hf0
      have w1 := few_wt l1 h1.1 hf1
      have n0 := wtL_length l0
      have n1 := wtL_length l1
      have w2 : wtL (l0 ++ l1) ≤ 1000000 := by rw [wtL_append]; omega
      have w3 : wtL [(⟨3, (⟨#[]⟩ : ByteArray), l0 ++ l1⟩ : S30)] ≤ 1000000 := by
        rw [wtL_cons]
        simp only [wtL, wtL_append]
        rw [show (⟨#[]⟩ : ByteArray).size = 0 from rfl]
        omega
      have p0 := plain_wt (SizeOf.sizeOf l0 + 1) l0 (by omega)
      have p1 := plain_wt (SizeOf.sizeOf l1 + 1) l1 (by omega)
      have b0 := lines_bound l0 (by omega)
      have b1 := lines_bound l1 (by omega)
      have z0 : (⟨(plainL l0).toArray⟩ : ByteArray).size = (plainL l0).length := by rw [L_size, L_mk]
      have z1 : (⟨(plainL l1).toArray⟩ : ByteArray).size = (plainL l1).length := by rw [L_size, L_mk]
      have c1 : ([] : List S30).length + l0.length < 2932031007402 := by rw [List.length_nil]; omega
      have c2 : ([] ++ l0).length + l1.length < 2932031007402 := by rw [List.nil_append]; omega
      have c3 : (⟨(plainL l0).toArray⟩ : ByteArray).size + (⟨(plainL l1).toArray⟩ : ByteArray).size ≤ 9223372036854775807 := by rw [z0, z1]; omega
      have c4 : (⟨(plainL (l0 ++ l1)).toArray⟩ : ByteArray).toList = ((⟨(plainL l0).toArray⟩ : ByteArray) ++ (⟨(plainL l1).toArray⟩ : ByteArray)).toList := by
        rw [L_toList, L_toList, L_append, L_mk, L_mk, L_mk, plainL_append]
      have c5 : linesL (l0 ++ l1) = wrap64 (wrap64 (linesL l0 + linesL l1) - 1) := by
        rw [wrap_small (x := linesL l0 + linesL l1) (by omega) (by omega), wrap_small (by omega) (by omega), lines_append]
      rw [emendationlaw07_SpanJoins.j0, if_neg (by decide), Option.bind_some, if_pos c1, Option.bind_some, if_pos c2, Option.bind_some, List.nil_append, Plain_eq _ w2, Option.bind_some, Plain_eq l0 (by omega), Option.bind_some, Plain_eq l1 (by omega), Option.bind_some, if_pos c3, if_pos c4,
        Lines_eq _ w2, Option.bind_some, Lines_eq l0 (by omega), Option.bind_some, Lines_eq l1 (by omega), Option.bind_some, if_pos c5, Plain_eq _ w3, Option.bind_some, plain_emph 3 _ (by decide)]
      simp
end Go.Proofs.YtedieaofadhhdaaDoor.Pure
