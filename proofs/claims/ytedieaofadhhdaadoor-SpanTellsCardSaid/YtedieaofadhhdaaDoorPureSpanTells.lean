/- The law SpanTells, as a statement of lists of spans. -/
import Derived.Test.YtedieaofadhhdaaDoorPAll
import Derived.Test.YtedieaofadhhdaaDoorPSpanR
import Derived.Test.YtedieaofadhhdaaDoorX11
set_option linter.unusedSimpArgs false
set_option linter.unusedVariables false
namespace Go.Proofs.YtedieaofadhhdaaDoor.Pure
open Go.RowKit Go.Lib Go.Proofs.YtedieaofadhhdaaDoor.X Go.Proofs.YtedieaofadhhdaaDoor.G Go.Proofs.YtedieaofadhhdaaDoorW.PrintWords Go.Proofs.YtedieaofadhhdaaDoorW.PrintLast Go.Proofs.YtedieaofadhhdaaDoorW.PrintMore
theorem wrap_one (n : Int) (a : 0 ≤ n) (b : n ≤ 5000) : wrap64 (n + 1) = n + 1 := wrap_small (by omega) (by omega)
theorem tells_l0 (l0 : List S30) (a1 : ByteArray) (hw : wtL l0 < 3000) (ha : a1.size ≤ 2000) (p : ByteArray) (hp : L p = plainL l0) : ∀ (d i k : Nat) (n : Int), i + d = (L p).length → d + 200000 < k → 0 ≤ n → n ≤ 1 + i → n + (((L p).drop i).count 10 : Nat) = linesL l0 →
    emendationlaw07_SpanTells.l0 k l0 a1 n p (p.size : Int) (i : Int) = some true := by
  have hsl : p.size = (L p).length := L_size p
  have hpl := plain_wt (SizeOf.sizeOf l0 + 1) l0 (by omega)
  rw [← hp] at hpl
  intro d
  induction d with
  | zero =>
    intro i k n hi hk hn hn2 hc
    obtain ⟨k, rfl⟩ : ∃ m, k = m + 1 := ⟨k - 1, by omega⟩
    rw [List.drop_eq_nil_of_le (by omega), List.count_nil] at hc
    have hn3 : linesL l0 = n := by omega
    have q1 : ¬ ((i : Int) < (p.size : Int)) := by omega
    have q2 : 3 * wtL l0 + 40 < k := by omega
    have q5 : wtL l0 ≤ 1000000 := by omega
    have q6 : a1.size ≤ 140737488351232 := by omega
    have q3 : 21 * wtL l0 + 70 < k := by omega
    have q4 : 20 * a1.size + 1 < k := by omega
    rw [emendationlaw07_SpanTells.l0, if_neg q1, Right_eq l0 k q5 q2, Option.bind_some, ref_Right_eq l0 k q5 q3, Option.bind_some, if_pos (by simp), Plain_eq l0 q5, Option.bind_some, if_pos (by rw [L_toList, L_toList, L_mk, hp]), Lines_eq l0 q5, Option.bind_some, if_pos hn3, span_dest_eq, Option.bind_some, ref_dest_eq a1 q6 k q4, Option.bind_some]
    simp
  | succ d ih =>
    intro i k n hi hk hn hn2 hc
    obtain ⟨k, rfl⟩ : ∃ m, k = m + 1 := ⟨k - 1, by omega⟩
    have hn5 : n ≤ 5000 := by clear hc ih hp; omega
    have q1 : (i : Int) < (p.size : Int) := by omega
    have hw1 : wrap64 ((i : Int) + 1) = ((i + 1 : Nat) : Int) := by rw [wrap_small (by omega) (by omega)]; omega
    have hw2 : wrap64 (n + 1) = n + 1 := wrap_one n hn hn5
    obtain ⟨c, t, hd⟩ : ∃ c t, (L p).drop i = c :: t := by
      rw [List.drop_eq_getElem_cons (by omega)]; exact ⟨_, _, rfl⟩
    have hx := ih (i + 1) k
    rw [drop_tail hd] at hx
    rw [hd, List.count_cons] at hc
    rw [emendationlaw07_SpanTells.l0, if_pos q1, if_pos (Int.natCast_nonneg i), if_pos q1, bt_d p i c t hd, hw1, hw2]
    by_cases g : c.toNat = 10
    · have g2 : (c == 10) = true := by rw [toNat_inj (a := c) (b := 10) g]; rfl
      rw [if_pos g2] at hc
      rw [if_pos ((i10 c).2 g)]
      exact hx (n + 1) (by omega) (by omega) (by omega) (by omega) (by omega)
    · have g2 : ¬ (c == 10) = true := fun e => g (by rw [beq_iff_eq.1 e]; rfl)
      rw [if_neg g2] at hc
      rw [if_neg (fun e => g ((i10 c).1 e))]
      exact hx n (by omega) (by omega) (by omega) (by omega) (by omega)
theorem SpanTells (l0 : List S30) (a1 : ByteArray) (h0 : okL l0 ∧ l0.length ≤ 140737488351232) (h1 : a1.size ≤ 140737488351232) : ∃ k, emendationlaw07_SpanTells.f k l0 a1 = some true := by
  obtain ⟨K, hK⟩ : ∃ K, K = 2 * wtL l0 + 300000 := ⟨_, rfl⟩
  refine ⟨K + 1, ?_⟩
  unfold emendationlaw07_SpanTells.f
  rw [awake07 _ (by omega), Option.bind_some, if_pos rfl, few07 _ _ h0.1 h0.2 (by omega), Option.bind_some]
  have hA : ∀ k, 100 < k → emendationlaw07_SpanTells.j0 (k + 1) l0 a1 true = some true := fun k hk => by rw [emendationlaw07_SpanTells.j0, if_pos rfl, awake07 _ hk]; rfl
  cases hf0 : fewL l0 with
  | false => exact hA _ (by omega)
  | true =>
    rw [if_pos rfl]
    by_cases h : (a1.size : Int) > 2000
    · rw [decide_eq_true h]; exact hA _ (by omega)
    · have w0 := few_wt l0 h0.1 hf0
      have hpl := plain_wt (SizeOf.sizeOf l0 + 1) l0 (by omega)
      rw [decide_eq_false h, emendationlaw07_SpanTells.j0, if_neg (by decide), ref_Plain_eq (SizeOf.sizeOf l0 + 1) l0 _ (by omega) (by omega) (by omega), Option.bind_some]
      have := tells_l0 l0 a1 w0 (by omega) ⟨(plainL l0).toArray⟩ (L_mk _) (plainL l0).length 0 K 1 (by rw [L_mk]; omega) (by omega) (by omega) (by omega) (by rw [List.drop_zero, L_mk]; rfl)
      exact this
end Go.Proofs.YtedieaofadhhdaaDoor.Pure
