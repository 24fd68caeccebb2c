/- The law SpanSame, as a statement of lists of spans. -/
import Derived.Test.YtedieaofadhhdaaDoorPAll
import Derived.Test.YtedieaofadhhdaaDoorX13
set_option linter.unusedSimpArgs false
set_option linter.unusedVariables false
namespace Go.Proofs.YtedieaofadhhdaaDoor.Pure
open Go.RowKit Go.Lib Go.Proofs.YtedieaofadhhdaaDoor.X Go.Proofs.YtedieaofadhhdaaDoor.G Go.Proofs.YtedieaofadhhdaaDoorW.PrintWords Go.Proofs.YtedieaofadhhdaaDoorW.PrintLast Go.Proofs.YtedieaofadhhdaaDoorW.PrintMore
theorem sameV_eq (x y : S30) : sameV x y = ((x.f0 == y.f0) && ((L x.f1 == L y.f1) && sameL x.f2 y.f2)) := by cases x; cases y; rw [sameV]; rfl
theorem same_sym (n : Nat) : ∀ a b : List S30, SizeOf.sizeOf a < n → sameL a b = sameL b a := by
  induction n with
  | zero => intro a b h; omega
  | succ n ih =>
    intro a b hn
    cases a with
    | nil => cases b <;> rfl
    | cons x t =>
      cases b with
      | nil => rfl
      | cons y u =>
        have h1 := size_kids x t
        have h2 := size_tail x t
        rw [sameL, sameL, sameV_eq, sameV_eq, ih t u (by omega), ih x.f2 y.f2 (by omega), Bool.beq_comm (a := x.f0), Bool.beq_comm (a := L x.f1)]
theorem same_self (n : Nat) : ∀ a : List S30, SizeOf.sizeOf a < n → sameL a a = true := by
  induction n with
  | zero => intro a h; omega
  | succ n ih =>
    intro a hn
    cases a with
    | nil => rfl
    | cons x t =>
      have h1 := size_kids x t
      have h2 := size_tail x t
      rw [sameL, sameV_eq, ih t (by omega), ih x.f2 (by omega)]
      simp
theorem SpanSame (l0 l1 : List S30) (h0 : okL l0 ∧ l0.length ≤ 140737488351232) (h1 : okL l1 ∧ l1.length ≤ 140737488351232) : ∃ k, emendationlaw07_SpanSame.f k l0 l1 = some true := by
  refine ⟨(2 * wtL l0 + 2 * wtL l1 + 200) + 1, ?_⟩
  unfold emendationlaw07_SpanSame.f
  rw [awake07 _ (by omega), Option.bind_some, if_pos rfl, few07 _ _ h0.1 h0.2 (by omega), Option.bind_some, few07 _ _ h1.1 h1.2 (by omega)]
  have hA : ∀ k, 100 < k → emendationlaw07_SpanSame.j0 (k + 1) l0 l1 true = some true := fun k hk => by rw [emendationlaw07_SpanSame.j0, if_pos rfl, awake07 _ hk]; rfl
  cases fewL l0 with
  | false => exact hA _ (by omega)
  | true =>
    rw [if_pos rfl, Option.bind_some]
    cases fewL l1 with
    | false => exact hA _ (by omega)
    | true =>
      rw [emendationlaw07_SpanSame.j0, if_neg (by decide)]
      unfold span_Same.f emendationref07_Same.f
      simp only [Option.bind_some]
      rw [same_sym _ l1 l0 (Nat.lt_succ_self _), same_self _ l0 (Nat.lt_succ_self _)]
      simp
end Go.Proofs.YtedieaofadhhdaaDoor.Pure
