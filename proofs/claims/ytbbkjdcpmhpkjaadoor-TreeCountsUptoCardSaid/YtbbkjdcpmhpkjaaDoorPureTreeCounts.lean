/- The plain law of TreeCounts. -/
import Derived.Test.YtbbkjdcpmhpkjaaDoorPTreeZ
set_option linter.unusedSimpArgs false
set_option linter.unusedVariables false
namespace Go.Proofs.YtbbkjdcpmhpkjaaDoor.Pure
open Go.RowKit Go.Lib Go.Proofs.YtbbkjdcpmhpkjaaDoor.X Go.Proofs.YtbbkjdcpmhpkjaaDoor.G Go.Proofs.YtbbkjdcpmhpkjaaDoorW.PrintWords Go.Proofs.YtbbkjdcpmhpkjaaDoorW.PrintLast Go.Proofs.YtbbkjdcpmhpkjaaDoorW.PrintMore
theorem wrap_sum (a b : Nat) (ha : a < 4000) (hb : b < 4000) : wrap64 ((a : Int) + (b : Int)) = ((a + b : Nat) : Int) := by
  rw [wrap_small (by omega) (by omega)]
  omega
theorem counts_j0_true (k : Nat) (a b : List BK) (hk : 21 < k) : emendationlaw10_TreeCounts.j0 k a b true = some true := by
  obtain ⟨k, rfl⟩ : ∃ m, k = m + 1 := ⟨k - 1, by omega⟩
  rw [emendationlaw10_TreeCounts.j0, if_pos rfl, awake10 k (by omega)]
  rfl
theorem counts_j0_false (k : Nat) (a b : List BK) (ha : wtBL a < 4000) (hb : wtBL b < 4000) (hk : 40000 < k) : emendationlaw10_TreeCounts.j0 k a b false = some true := by
  obtain ⟨k, rfl⟩ : ∃ m, k = m + 1 := ⟨k - 1, by omega⟩
  have hw := wtBL_append a b
  have la := wtBL_length a
  have lb := wtBL_length b
  have lab := cntBL_length (a ++ b)
  have dab := dpBL_cnt _ (a ++ b) (Nat.lt_succ_self _)
  have ca := cntBL_wt _ a (Nat.lt_succ_self _)
  have cb := cntBL_wt _ b (Nat.lt_succ_self _)
  have hc := cntBL_append a b
  have f1 := tree_Count_eq _ (a ++ b) k (Nat.lt_succ_self _) (by omega) (by omega)
  have f2 := tree_Count_eq _ a k (Nat.lt_succ_self _) (by omega) (by omega)
  have f3 := tree_Count_eq _ b k (Nat.lt_succ_self _) (by omega) (by omega)
  have f4 := tree_Deep_eq _ (a ++ b) k (Nat.lt_succ_self _) (by omega) (by omega)
  have f5 := tree_Deep_eq _ a k (Nat.lt_succ_self _) (by omega) (by omega)
  have f6 := tree_Deep_eq _ b k (Nat.lt_succ_self _) (by omega) (by omega)
  have g1 : ([] : List BK).length + a.length < 1353245080339 := by rw [List.length_nil]; omega
  have g2 : a.length + b.length < 1353245080339 := by omega
  have g3 : (cntBL (a ++ b) : Int) = wrap64 ((cntBL a : Int) + (cntBL b : Int)) := by rw [wrap_sum _ _ (Nat.lt_of_le_of_lt ca ha) (Nat.lt_of_le_of_lt cb hb), hc]
  have g4 : (dpBL (a ++ b) : Int) = mx (dpBL a : Int) (dpBL b : Int) := by rw [mx_nat, dpBL_append]
  have g5 : (cntBL (a ++ b) : Int) ≥ ((a ++ b).length : Int) := Int.ofNat_le.2 lab
  have g6 : decide ((dpBL (a ++ b) : Int) ≤ (cntBL (a ++ b) : Int)) = true := decide_eq_true (Int.ofNat_le.2 dab)
  rw [emendationlaw10_TreeCounts.j0, if_neg (by decide), Option.bind_some, if_pos g1, Option.bind_some, List.nil_append, if_pos g2, Option.bind_some, f1, Option.bind_some, f2, Option.bind_some, f3, Option.bind_some, if_pos g3, f4, Option.bind_some, f5, Option.bind_some, f6, Option.bind_some, if_pos g4, Option.bind_some, if_pos g5, Option.bind_some, Option.bind_some, g6]
theorem TreeCounts (l0 l1 : List BK) (h0 : wtBL l0 ≤ 2000000) (h1 : wtBL l1 ≤ 2000000) : ∃ k, emendationlaw10_TreeCounts.f k l0 l1 = some true := by
  refine ⟨10000000, ?_⟩
  generalize hK : 10000000 = k
  have hk : 10000000 ≤ k := by omega
  clear hK
  unfold emendationlaw10_TreeCounts.f
  rw [awake10 k (by omega), Option.bind_some, if_pos rfl, few10 l0 k h0 (by omega), Option.bind_some]
  cases f0 : fewB l0 with
  | false => rw [if_neg (by decide)]; exact counts_j0_true k l0 l1 (by omega)
  | true =>
    rw [if_pos rfl, few10 l1 k h1 (by omega), Option.bind_some]
    cases f1 : fewB l1 with
    | false => exact counts_j0_true k l0 l1 (by omega)
    | true => exact counts_j0_false k l0 l1 (fewB_wt l0 h0 f0) (fewB_wt l1 h1 f1) (by omega)
end Go.Proofs.YtbbkjdcpmhpkjaaDoor.Pure
