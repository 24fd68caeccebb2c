/- The plain law of TreeWraps. -/
import Derived.Test.YtbbkjdcpmhpkjaaDoorPTreeZ
set_option linter.unusedSimpArgs false
set_option linter.unusedVariables false
namespace Go.Proofs.YtbbkjdcpmhpkjaaDoor.Pure
open Go.RowKit Go.Lib Go.Proofs.YtbbkjdcpmhpkjaaDoor.X Go.Proofs.YtbbkjdcpmhpkjaaDoor.G Go.Proofs.YtbbkjdcpmhpkjaaDoorW.PrintWords Go.Proofs.YtbbkjdcpmhpkjaaDoorW.PrintLast Go.Proofs.YtbbkjdcpmhpkjaaDoorW.PrintMore
theorem wraps_j0_true (k : Nat) (a : List BK) (hk : 21 < k) : emendationlaw10_TreeWraps.j0 k a true = some true := by
  obtain ⟨k, rfl⟩ : ∃ m, k = m + 1 := ⟨k - 1, by omega⟩
  rw [emendationlaw10_TreeWraps.j0, if_pos rfl, awake10 k (by omega)]
  rfl
theorem wrap_one (a b : Nat) (ha : a < 4000) (hb : b < 4000) : wrap64 ((a : Int) + (b : Int)) = ((a + b : Nat) : Int) := by
  rw [wrap_small (by omega) (by omega)]
  omega
theorem r_of (x : List BK) (k : Nat) (hb : wtBL x ≤ 5000) (hk : 30000 < k) : tree_Right.f k x = some (rightB x) := tree_Right_eq x k (by omega) (by omega)
theorem d_of (x : List BK) (k : Nat) (hb : wtBL x ≤ 5000) (hk : 30000 < k) : tree_Deep.f k x = some (dpBL x : Int) := tree_Deep_eq _ x k (Nat.lt_succ_self _) (by omega) (by omega)
theorem c_of (x : List BK) (k : Nat) (hb : wtBL x ≤ 5000) (hk : 30000 < k) : tree_Count.f k x = some (cntBL x : Int) := tree_Count_eq _ x k (Nat.lt_succ_self _) (by omega) (by omega)
theorem d16 (d : Nat) : decide (d + 1 ≤ 16) = decide ((d : Int) < 16) := decide_eq_decide.2 (by omega)
theorem d17 (d : Nat) : decide (d + 1 + 1 ≤ 16) = decide (((d + 2 : Nat) : Int) ≤ 16) := decide_eq_decide.2 (by omega)
theorem wraps_j0_false (k : Nat) (l : List BK) (hw : wtBL l < 4000) (hr : rightB l = true) (hk : 40000 < k) : emendationlaw10_TreeWraps.j0 k l false = some true := by
  obtain ⟨k, rfl⟩ : ∃ m, k = m + 1 := ⟨k - 1, by omega⟩
  unfold rightB at hr
  rw [Bool.and_eq_true] at hr
  obtain ⟨ha, hd⟩ := hr
  have hd := of_decide_eq_true hd
  have hc := Nat.lt_of_le_of_lt (cntBL_wt _ l (Nat.lt_succ_self _)) hw
  have hk3 : 30000 < k := by omega
  have hd4 : dpBL l < 4000 := by omega
  have bl : wtBL l ≤ 5000 := by omega
  have bq : wtBL [(⟨5, 0, mtB, [], [], l⟩ : BK)] ≤ 5000 := by rw [wtB_mt]; omega
  have bi : wtBL [(⟨6, 0, mtB, [], [], [(⟨7, 0, mtB, [], [], l⟩ : BK)]⟩ : BK)] ≤ 5000 := by rw [wtB_mt, wtB_mt]; omega
  have aq : allB [(⟨5, 0, mtB, [], [], l⟩ : BK)] 0 false = true := by
    rw [allB_box 5 _ _ (Or.inl rfl)]
    show (_ && (_ && allB l 0 false)) = true
    rw [ha]
    rfl
  have ai : allB [(⟨7, 0, mtB, [], [], l⟩ : BK)] 0 true = true := by
    rw [allB_box 7 _ _ (Or.inr (Or.inr rfl))]
    show (_ && (_ && allB l 0 false)) = true
    rw [ha]
    rfl
  have al : allB [(⟨6, 0, mtB, [], [], [(⟨7, 0, mtB, [], [], l⟩ : BK)]⟩ : BK)] 0 false = true := by
    rw [allB_box 6 _ _ (Or.inr (Or.inl rfl))]
    show (_ && (_ && allB [(⟨7, 0, mtB, [], [], l⟩ : BK)] 0 true)) = true
    rw [ai]
    rfl
  have dq := dpB_box 5 l (Or.inl rfl)
  have di := dpB_box 7 l (Or.inr (Or.inr rfl))
  have dl := dpB_box 6 [(⟨7, 0, mtB, [], [], l⟩ : BK)] (Or.inr (Or.inl rfl))
  rw [di] at dl
  have ci := cntB_box 7 l
  have cl := cntB_box 6 [(⟨7, 0, mtB, [], [], l⟩ : BK)]
  rw [ci] at cl
  have rq : rightB [(⟨5, 0, mtB, [], [], l⟩ : BK)] = decide ((dpBL l : Int) < 16) := by
    unfold rightB
    rw [aq, dq, Bool.true_and]
    exact d16 _
  have w2 : wrap64 ((dpBL l : Int) + 2) = ((dpBL l + 2 : Nat) : Int) := wrap_one (dpBL l) 2 hd4 (by decide)
  have w1 : wrap64 ((dpBL l : Int) + 1) = ((dpBL l + 1 : Nat) : Int) := wrap_one (dpBL l) 1 hd4 (by decide)
  have w3 : wrap64 ((cntBL l : Int) + 2) = ((cntBL l + 2 : Nat) : Int) := wrap_one (cntBL l) 2 hc (by decide)
  have rl : rightB [(⟨6, 0, mtB, [], [], [(⟨7, 0, mtB, [], [], l⟩ : BK)]⟩ : BK)] = decide (wrap64 ((dpBL l : Int) + 2) ≤ 16) := by
    unfold rightB
    rw [al, dl, Bool.true_and, w2]
    exact d17 _
  have dl2 : dpBL [(⟨6, 0, mtB, [], [], [(⟨7, 0, mtB, [], [], l⟩ : BK)]⟩ : BK)] = dpBL l + 2 := by rw [dl]
  have cl2 : cntBL [(⟨6, 0, mtB, [], [], [(⟨7, 0, mtB, [], [], l⟩ : BK)]⟩ : BK)] = cntBL l + 2 := by rw [cl, ← Nat.add_assoc, Nat.add_comm]
  have f1 := d_of l k bl hk3
  have f2 := r_of _ k bq hk3
  have f3 := r_of _ k bi hk3
  have f4 := d_of _ k bq hk3
  have f5 := d_of _ k bi hk3
  have f6 := c_of _ k bi hk3
  have f7 := c_of l k bl hk3
  rw [rq] at f2
  rw [rl] at f3
  rw [dq] at f4
  rw [dl2] at f5
  rw [cl2] at f6
  simp only [mtB] at f2 f3 f4 f5 f6
  rw [emendationlaw10_TreeWraps.j0, if_neg (by decide), Option.bind_some, Option.bind_some, f1, Option.bind_some, f2, Option.bind_some, if_pos (beq_self_eq_true _), f3, Option.bind_some, if_pos (beq_self_eq_true _), f4, Option.bind_some, w1, if_pos (by rfl), f5, Option.bind_some, w2, if_pos (by rfl), f6, Option.bind_some, f7, Option.bind_some, w3, beq_self_eq_true]
theorem TreeWraps (l0 : List BK) (h0 : wtBL l0 ≤ 2000000) : ∃ k, emendationlaw10_TreeWraps.f k l0 = some true := by
  refine ⟨10000000, ?_⟩
  generalize hK : 10000000 = k
  have hk : 10000000 ≤ k := by omega
  clear hK
  unfold emendationlaw10_TreeWraps.f
  rw [awake10 k (by omega), Option.bind_some, if_pos rfl, few10 l0 k h0 (by omega), Option.bind_some]
  cases f0 : fewB l0 with
  | false => rw [if_neg (by decide)]; exact wraps_j0_true k l0 (by omega)
  | true =>
    have hw := fewB_wt l0 h0 f0
    rw [if_pos rfl, tree_Right_eq l0 k (by omega) (by omega), Option.bind_some]
    cases f1 : rightB l0 with
    | false => exact wraps_j0_true k l0 (by omega)
    | true => exact wraps_j0_false k l0 hw f1 (by omega)
end Go.Proofs.YtbbkjdcpmhpkjaaDoor.Pure
