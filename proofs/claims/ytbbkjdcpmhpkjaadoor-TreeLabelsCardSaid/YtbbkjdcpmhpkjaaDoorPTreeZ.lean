/- Words for the laws of this seat, several texts behind one another. -/
import Derived.Test.YtbbkjdcpmhpkjaaDoorPAll
import Derived.Test.YtbbkjdcpmhpkjaaDoorX3
import Derived.Test.YtbbkjdcpmhpkjaaDoorX2
import Derived.Test.YtbbkjdcpmhpkjaaDoorX5
import Derived.Test.YtbbkjdcpmhpkjaaDoorX6
import Derived.Test.YtbbkjdcpmhpkjaaDoorX4
/-! PTree1 -/
set_option linter.unusedSimpArgs false
set_option linter.unusedVariables false
namespace Go.Proofs.YtbbkjdcpmhpkjaaDoor.Pure
open Go.RowKit Go.Lib Go.Proofs.YtbbkjdcpmhpkjaaDoor.X Go.Proofs.YtbbkjdcpmhpkjaaDoor.G Go.Proofs.YtbbkjdcpmhpkjaaDoorW.PrintWords Go.Proofs.YtbbkjdcpmhpkjaaDoorW.PrintLast Go.Proofs.YtbbkjdcpmhpkjaaDoorW.PrintMore
mutual
/-- How many blocks lie in one. -/
def cntB : BK → Nat
  | ⟨_, _, _, _, _, c⟩ => cntBL c
/-- How many blocks there are. -/
def cntBL : List BK → Nat
  | [] => 0
  | x :: t => 1 + cntB x + cntBL t
end
mutual
/-- How many containers lie one in the other. -/
def dpB : BK → Nat
  | ⟨k, _, _, _, _, c⟩ => dpBL c + (if k = 5 ∨ k = 6 ∨ k = 7 then 1 else 0)
def dpBL : List BK → Nat
  | [] => 0
  | x :: t => max (dpB x) (dpBL t)
end
theorem cntB_eq (x : BK) : cntB x = cntBL x.f5 := by cases x; rw [cntB]
theorem cntBL_cons (x : BK) (t : List BK) : cntBL (x :: t) = 1 + cntBL x.f5 + cntBL t := by rw [cntBL, cntB_eq]
theorem cntBL_append (a b : List BK) : cntBL (a ++ b) = cntBL a + cntBL b := by
  induction a with
  | nil => simp [cntBL]
  | cons x t ih => rw [List.cons_append, cntBL_cons, cntBL_cons, ih]; omega
theorem cntBL_length (l : List BK) : l.length ≤ cntBL l := by
  induction l with
  | nil => simp [cntBL]
  | cons x t ih => rw [cntBL_cons, List.length_cons]; omega
theorem dpB_eq (x : BK) : dpB x = dpBL x.f5 + (if x.f0 = 5 ∨ x.f0 = 6 ∨ x.f0 = 7 then 1 else 0) := by cases x; rw [dpB]
theorem dpBL_cons (x : BK) (t : List BK) : dpBL (x :: t) = max (dpBL x.f5 + (if x.f0 = 5 ∨ x.f0 = 6 ∨ x.f0 = 7 then 1 else 0)) (dpBL t) := by rw [dpBL, dpB_eq]
theorem dpBL_append (a b : List BK) : dpBL (a ++ b) = max (dpBL a) (dpBL b) := by
  induction a with
  | nil => simp [dpBL]
  | cons x t ih => rw [List.cons_append, dpBL_cons, dpBL_cons, ih]; omega
theorem sizeB_kids (x : BK) (t : List BK) : SizeOf.sizeOf x.f5 < SizeOf.sizeOf (x :: t) := by
  obtain ⟨a, b, c, d, e, f⟩ := x
  have := S28.mk.sizeOf_spec a b c d e f
  simp only [List.cons.sizeOf_spec]
  omega
theorem sizeB_tail (x : BK) (t : List BK) : SizeOf.sizeOf t < SizeOf.sizeOf (x :: t) := by
  simp only [List.cons.sizeOf_spec]
  omega
theorem rdB_drop (l : List BK) (i : Nat) {x : BK} {t : List BK} (h : l.drop i = x :: t) : rd_T28 l (i : Int) = x ∧ i < l.length ∧ l.drop (i + 1) = t := by
  refine ⟨?_, drop_lt h, drop_tail h⟩
  unfold rd_T28
  rw [Int.toNat_natCast, List.getD_eq_getElem?_getD]
  have := congrArg (fun l => l[0]?) h
  simp at this
  rw [this]
  rfl
theorem cntBL_wt (n : Nat) : ∀ l : List BK, SizeOf.sizeOf l < n → cntBL l ≤ wtBL l := by
  induction n with
  | zero => intro l h; omega
  | succ n ih =>
    intro l hn
    cases l with
    | nil => simp [cntBL]
    | cons x t =>
      have h1 := sizeB_kids x t
      have h2 := sizeB_tail x t
      have k1 := ih x.f5 (by omega)
      have k2 := ih t (by omega)
      rw [cntBL_cons, wtBL_cons, wtB_eq]
      omega
theorem dpBL_cnt (n : Nat) : ∀ l : List BK, SizeOf.sizeOf l < n → dpBL l ≤ cntBL l := by
  induction n with
  | zero => intro l h; omega
  | succ n ih =>
    intro l hn
    cases l with
    | nil => simp [dpBL]
    | cons x t =>
      have h1 := sizeB_kids x t
      have h2 := sizeB_tail x t
      have k1 := ih x.f5 (by omega)
      have k2 := ih t (by omega)
      rw [cntBL_cons, dpBL_cons]
      split <;> omega
theorem tree_container_eq (k : Int) : tree_container.f k = some (decide (k = 5 ∨ k = 6 ∨ k = 7)) := by
  unfold tree_container.f
  by_cases h5 : k = 5
  · rw [if_pos h5]; simp [h5]
  rw [if_neg h5]
  by_cases h6 : k = 6
  · rw [if_pos h6]; simp [h6]
  rw [if_neg h6]
  by_cases h7 : k = 7
  · subst h7; rfl
  · have e : (k == 7) = false := beq_eq_false_iff_ne.2 h7
    rw [e]
    simp [h5, h6, h7]
theorem mx_nat (a b : Nat) : mx (a : Int) (b : Int) = ((max a b : Nat) : Int) := by
  unfold mx
  split <;> omega
theorem tree_Count_eq (n : Nat) : ∀ (l : List BK) (k : Nat), SizeOf.sizeOf l < n → wtBL l ≤ 2000000 → 2 * wtBL l + 1 < k → tree_Count.f k l = some (cntBL l : Int) := by
  induction n with
  | zero => intro l k h; omega
  | succ n ih =>
    intro l k hn hw hk
    obtain ⟨k, rfl⟩ : ∃ m, k = m + 1 := ⟨k - 1, by omega⟩
    rw [tree_Count.f]
    have hc := cntBL_wt _ l (Nat.lt_succ_self _)
    have loop : ∀ (t : List BK) (i u k : Nat), l.drop i = t → i ≤ l.length → u + cntBL t = cntBL l + t.length → 2 * wtBL t < k → SizeOf.sizeOf t ≤ SizeOf.sizeOf l → wtBL t ≤ wtBL l →
        tree_Count.l0 k (u : Int) l (l.length : Int) (i : Int) = some (cntBL l : Int) := by
      intro t
      induction t with
      | nil =>
        intro i u k hdr hil hu hk _ _
        obtain ⟨k, rfl⟩ : ∃ m, k = m + 1 := ⟨k - 1, by omega⟩
        have := drop_nil_len hdr
        rw [tree_Count.l0, if_neg (by omega)]
        simp [cntBL] at hu
        rw [hu]
      | cons x t iht =>
        intro i u k hdr hil hu hk hsz hwt
        obtain ⟨k, rfl⟩ : ∃ m, k = m + 1 := ⟨k - 1, by omega⟩
        obtain ⟨e1, e2, e3⟩ := rdB_drop l i hdr
        have h1 := sizeB_kids x t
        have h2 := sizeB_tail x t
        rw [wtBL_cons, wtB_eq] at hk hwt
        rw [cntBL_cons, List.length_cons] at hu
        have q1 : (i : Int) < (l.length : Int) := by omega
        have hlc := cntBL_length t
        have hln := wtBL_length l
        have w5 : wrap64 ((i : Int) + 1) = ((i + 1 : Nat) : Int) := by rw [wrap_small (by omega) (by omega)]; omega
        have w6 : wrap64 ((u : Int) + (cntBL x.f5 : Int)) = ((u + cntBL x.f5 : Nat) : Int) := by rw [wrap_small (by omega) (by omega)]; omega
        rw [tree_Count.l0, if_pos q1, if_pos (Int.natCast_nonneg i), if_pos q1, e1, ih x.f5 k (by omega) (by omega) (by omega), Option.bind_some, w5, w6]
        exact iht (i + 1) _ k e3 e2 (by omega) (by omega) (by omega) (by omega)
    exact loop l 0 l.length k (List.drop_zero) (Nat.zero_le _) (by omega) (by omega) (Nat.le_refl _) (Nat.le_refl _)
theorem tree_Deep_eq (n : Nat) : ∀ (l : List BK) (k : Nat), SizeOf.sizeOf l < n → wtBL l ≤ 2000000 → 2 * wtBL l + 1 < k → tree_Deep.f k l = some (dpBL l : Int) := by
  induction n with
  | zero => intro l k h; omega
  | succ n ih =>
    intro l k hn hw hk
    obtain ⟨k, rfl⟩ : ∃ m, k = m + 1 := ⟨k - 1, by omega⟩
    rw [tree_Deep.f]
    have loop : ∀ (t : List BK) (i u k : Nat), l.drop i = t → i ≤ l.length → max u (dpBL t) = dpBL l → 2 * wtBL t < k → SizeOf.sizeOf t ≤ SizeOf.sizeOf l → wtBL t ≤ wtBL l →
        tree_Deep.l0 k (u : Int) l (l.length : Int) (i : Int) = some (dpBL l : Int) := by
      intro t
      induction t with
      | nil =>
        intro i u k hdr hil hu hk _ _
        obtain ⟨k, rfl⟩ : ∃ m, k = m + 1 := ⟨k - 1, by omega⟩
        have := drop_nil_len hdr
        rw [tree_Deep.l0, if_neg (by omega)]
        simp [dpBL] at hu
        rw [hu]
      | cons x t iht =>
        intro i u k hdr hil hu hk hsz hwt
        obtain ⟨k, rfl⟩ : ∃ m, k = m + 1 := ⟨k - 1, by omega⟩
        obtain ⟨e1, e2, e3⟩ := rdB_drop l i hdr
        have h1 := sizeB_kids x t
        have h2 := sizeB_tail x t
        rw [wtBL_cons, wtB_eq] at hk hwt
        rw [dpBL_cons] at hu
        have p1 : 2 * wtBL t < k := by clear hu; omega
        have p2 : SizeOf.sizeOf t ≤ SizeOf.sizeOf l := by clear hu; omega
        have p3 : wtBL t ≤ wtBL l := by clear hu; omega
        have HU := Aside0.mk hu
        clear hu
        have q1 : (i : Int) < (l.length : Int) := by omega
        have hd1 := dpBL_cnt _ x.f5 (Nat.lt_succ_self _)
        have hd2 := cntBL_wt _ x.f5 (Nat.lt_succ_self _)
        have hln := wtBL_length l
        have w5 : wrap64 ((i : Int) + 1) = ((i + 1 : Nat) : Int) := by rw [wrap_small (by omega) (by omega)]; omega
        have w6 : wrap64 ((dpBL x.f5 : Int) + 1) = ((dpBL x.f5 + 1 : Nat) : Int) := by rw [wrap_small (by omega) (by omega)]; omega
        rw [tree_Deep.l0, if_pos q1, if_pos (Int.natCast_nonneg i), if_pos q1, e1, ih x.f5 k (by omega) (by omega) (by omega), Option.bind_some, tree_container_eq, Option.bind_some, w5, w6]
        by_cases hk5 : x.f0 = 5 ∨ x.f0 = 6 ∨ x.f0 = 7
        · have hu := HU.out
          rw [if_pos hk5, ← Nat.max_assoc] at hu
          rw [if_pos (decide_eq_true hk5), mx_nat]
          exact iht (i + 1) _ k e3 e2 hu p1 p2 p3
        · have hu := HU.out
          rw [if_neg hk5, Nat.add_zero, ← Nat.max_assoc] at hu
          rw [decide_eq_false hk5, if_neg (by decide), mx_nat]
          exact iht (i + 1) _ k e3 e2 hu p1 p2 p3
    exact loop l 0 0 k (List.drop_zero) (Nat.zero_le _) (by omega) (by omega) (Nat.le_refl _) (Nat.le_refl _)
end Go.Proofs.YtbbkjdcpmhpkjaaDoor.Pure
/-! PTree2 -/
set_option linter.unusedSimpArgs false
set_option linter.unusedVariables false
namespace Go.Proofs.YtbbkjdcpmhpkjaaDoor.Pure
open Go.RowKit Go.Lib Go.Proofs.YtbbkjdcpmhpkjaaDoor.X Go.Proofs.YtbbkjdcpmhpkjaaDoor.G Go.Proofs.YtbbkjdcpmhpkjaaDoorW.PrintWords Go.Proofs.YtbbkjdcpmhpkjaaDoorW.PrintLast Go.Proofs.YtbbkjdcpmhpkjaaDoorW.PrintMore
theorem okL_of_wt (n : Nat) : ∀ l : List S33, SizeOf.sizeOf l < n → wtL l ≤ 140737488351232 → okL l := by
  induction n with
  | zero => intro l h; omega
  | succ n ih =>
    intro l hn hw
    cases l with
    | nil => rw [okL]; trivial
    | cons x t =>
      have h1 := size_kids x t
      have h2 := size_tail x t
      have h3 := wtL_length x.f2
      rw [wtL_cons] at hw
      rw [okL_cons]
      exact ⟨⟨by omega, by omega, ih _ (by omega) (by omega)⟩, ih _ (by omega) (by omega)⟩
/-- What a block is without its kids. -/
def ownB (x : BK) : Int := 1 + (x.f2.size : Int) + spendL x.f4 30 5000 0 + (wtT x.f3 : Int)
theorem ownB_bound (x : BK) (hw : wtB x ≤ 2000000) : 0 ≤ ownB x ∧ ownB x ≤ 5000000000000000 := by
  rw [wtB_eq] at hw
  have h := spend_bound _ x.f4 30 5000 0 (Nat.lt_succ_self _) (okL_of_wt _ _ (Nat.lt_succ_self _) (by omega)) (by omega) (by omega)
  unfold ownB
  generalize spendL x.f4 30 5000 0 = v at h ⊢
  omega
theorem ownB_wt (x : BK) (hw : wtB x ≤ 2000000) (h : ownB x < 1000000) : ownB x = 1 + (x.f2.size : Int) + (wtL x.f4 : Int) + (wtT x.f3 : Int) := by
  rw [wtB_eq] at hw
  unfold ownB at h ⊢
  have h1 := spend_bound _ x.f4 30 5000 0 (Nat.lt_succ_self _) (okL_of_wt _ _ (Nat.lt_succ_self _) (by omega)) (by omega) (by omega)
  have h2 := spend_wt _ x.f4 30 5000 0 (Nat.lt_succ_self _) (okL_of_wt _ _ (Nat.lt_succ_self _) (by omega)) (by omega) (by omega)
  generalize spendL x.f4 30 5000 0 = v at h h1 h2 ⊢
  have := h2 (by omega)
  omega
mutual
def spB : BK → Int → Int → Int → Int
  | ⟨k, lv, s, ls, sp, c⟩, d, b, u => (u + ownB ⟨k, lv, s, ls, sp, c⟩) + spBL c (d - 1) (b - (u + ownB ⟨k, lv, s, ls, sp, c⟩)) 0
def spBL : List BK → Int → Int → Int → Int
  | [], _, _, u => u
  | x :: t, d, b, u => if d = 0 then u + 1000000 else if u ≥ b then u + 1000000 else spBL t d b (spB x d b u)
end
theorem spB_eq (x : BK) (d b u : Int) : spB x d b u = (u + ownB x) + spBL x.f5 (d - 1) (b - (u + ownB x)) 0 := by cases x; rw [spB]
theorem spB_over (l : List BK) (d b u : Int) (h : u ≥ b) : u ≤ spBL l d b u ∧ spBL l d b u ≤ u + 1000000 := by
  cases l with
  | nil => rw [spBL]; omega
  | cons x t => rw [spBL]; (repeat' split) <;> omega
theorem spB_bound (n : Nat) : ∀ (l : List BK) (d b u : Int), SizeOf.sizeOf l < n → wtBL l ≤ 2000000 → 0 ≤ d → 0 ≤ u → u ≤ spBL l d b u ∧ spBL l d b u ≤ max u b + (d + 1) * 5000000001000000 := by
  induction n with
  | zero => intro l d b u h; omega
  | succ n ih =>
    intro l d b u hn hw hd hu
    have hd1 : (0 : Int) ≤ (d + 1) * 5000000001000000 := Int.mul_nonneg (by omega) (by omega)
    cases l with
    | nil => rw [spBL]; omega
    | cons x t =>
      have h1 := sizeB_kids x t
      have h2 := sizeB_tail x t
      rw [wtBL_cons] at hw
      have ho := ownB_bound x (by omega)
      have hk : wtBL x.f5 ≤ 2000000 := by rw [wtB_eq] at hw; omega
      rw [spBL]
      by_cases e : d = 0
      · rw [if_pos e]; subst e; omega
      rw [if_neg e]
      by_cases g : u ≥ b
      · rw [if_pos g]
        have : (5000000001000000 : Int) ≤ (d + 1) * 5000000001000000 := by omega
        omega
      rw [if_neg g, spB_eq]
      have k1 := ih x.f5 (d - 1) (b - (u + ownB x)) 0 (by omega) hk (by omega) (by omega)
      generalize spBL x.f5 (d - 1) (b - (u + ownB x)) 0 = v at k1 ⊢
      generalize ownB x = o at ho k1 ⊢
      by_cases g2 : u + o + v ≥ b
      · have k2 := spB_over t d b _ g2
        omega
      · have k2 := ih t d b (u + o + v) (by omega) (by omega) hd (by omega)
        omega
theorem spB_wt (n : Nat) : ∀ (l : List BK) (d b u : Int), SizeOf.sizeOf l < n → wtBL l ≤ 2000000 → 0 ≤ d → 0 ≤ u → spBL l d b u < 1000000 → spBL l d b u = u + wtBL l := by
  induction n with
  | zero => intro l d b u h; omega
  | succ n ih =>
    intro l d b u hn hw hd hu h
    cases l with
    | nil => rw [spBL, wtBL]; omega
    | cons x t =>
      have h1 := sizeB_kids x t
      have h2 := sizeB_tail x t
      rw [wtBL_cons] at hw
      have ho := ownB_bound x (by omega)
      have hov := ownB_wt x (by omega)
      have hk : wtBL x.f5 ≤ 2000000 := by rw [wtB_eq] at hw; omega
      rw [spBL] at h ⊢
      by_cases e : d = 0
      · rw [if_pos e] at h; omega
      rw [if_neg e] at h ⊢
      by_cases g : u ≥ b
      · rw [if_pos g] at h; omega
      rw [if_neg g, spB_eq] at h ⊢
      have k1 := spB_bound n x.f5 (d - 1) (b - (u + ownB x)) 0 (by omega) hk (by omega) (by omega)
      have k0 := spB_bound n t d b (u + ownB x + spBL x.f5 (d - 1) (b - (u + ownB x)) 0) (by omega) (by omega) hd (by omega)
      have k2 := ih x.f5 (d - 1) (b - (u + ownB x)) 0 (by omega) hk (by omega) (by omega) (by omega)
      have k3 := ih t d b _ (by omega) (by omega) hd (by omega) h
      have k4 := hov (by omega)
      rw [k3, k2, wtBL_cons, wtB_eq]
      omega
theorem spB_arith (u d b o v : Int) (hu : 0 ≤ u) (hub : u < b) (hb : b ≤ 100000) (ho : 0 ≤ o) (ho2 : o ≤ 5000000000000000) (hd : d ≤ 40) (h0 : 0 ≤ v) (h1 : v ≤ max 0 (b - (u + o)) + (d - 1 + 1) * 5000000001000000) : 0 ≤ u + o + v ∧ u + o + v ≤ 300000000000000000 := by
  have kd : (d - 1 + 1) * 5000000001000000 ≤ 40 * 5000000001000000 := Int.mul_le_mul_of_nonneg_right (by omega) (by omega)
  generalize (d - 1 + 1) * 5000000001000000 = y at *
  omega
theorem rdOf_drop (l : List ByteArray) (i : Nat) {x : ByteArray} {t : List ByteArray} (h : l.drop i = x :: t) : rdOf ByteArray.empty l (i : Int) = x := by
  unfold rdOf
  rw [Int.toNat_natCast, List.getD_eq_getElem?_getD]
  have := congrArg (fun l => l[0]?) h
  simp at this
  rw [this]
  rfl
theorem lines_loop (l : List BK) (i : Nat) (x : BK) (hx : rd_T28 l (i : Int) = x) (hi : i < l.length) (d b x11 x12 : Int) : ∀ (rs : List ByteArray) (j : Nat) (n : Int) (k : Nat), x.f3.drop j = rs → j ≤ x.f3.length → x.f3.length ≤ 2000000 → 0 ≤ n → n + wtT rs ≤ 7000000000000000 →
    emendationref10_spend.l1 (k + rs.length + 1) l d b n (i : Int) x11 x12 (x.f3.length : Int) (j : Int) = (emendationref10_spend.f k x.f5 (wrap64 (d - 1)) (wrap64 (b - (n + wtT rs)))).bind fun v => emendationref10_spend.l0 k l d b (wrap64 (n + wtT rs + v)) x11 (wrap64 (x12 + 1)) := by
  have q1 : (i : Int) < (l.length : Int) := by omega
  intro rs
  induction rs with
  | nil =>
    intro j n k hdr hj hl hn hn2
    have := drop_nil_len hdr
    rw [List.length_nil, emendationref10_spend.l1, if_neg (by omega), if_pos (Int.natCast_nonneg i), if_pos q1, hx, wtT]
    have e : n + ((0 : Nat) : Int) = n := by omega
    rw [e]
  | cons y t ih =>
    intro j n k hdr hj hl hn hn2
    have hjl := drop_lt hdr
    have htl := drop_tail hdr
    have hrd := rdOf_drop x.f3 j hdr
    rw [wtT] at hn2 ⊢
    have q2 : (j : Int) < (x.f3.length : Int) := by omega
    have w1 : wrap64 (n + 1) = n + 1 := wrap_small (by omega) (by omega)
    have w2 : wrap64 (n + 1 + (y.size : Int)) = n + 1 + (y.size : Int) := wrap_small (by omega) (by omega)
    have w3 : wrap64 ((j : Int) + 1) = ((j + 1 : Nat) : Int) := by rw [wrap_small (by omega) (by omega)]; omega
    have hf : k + (y :: t).length + 1 = (k + t.length + 1) + 1 := by rw [List.length_cons]; omega
    rw [hf, emendationref10_spend.l1, if_pos q2, if_pos (Int.natCast_nonneg i), if_pos q1, if_pos (Int.natCast_nonneg j), hx, if_pos q2, hrd, w1, w2, w3]
    rw [ih (j + 1) (n + 1 + (y.size : Int)) k htl (by omega) hl (by omega) (by omega)]
    have e : n + 1 + (y.size : Int) + (wtT t : Int) = n + ((1 + y.size + wtT t : Nat) : Int) := by omega
    rw [e]
theorem spB_run (n : Nat) : ∀ (l : List BK) (d b : Int) (k : Nat), SizeOf.sizeOf l < n → wtBL l ≤ 2000000 → 0 ≤ d → d ≤ 40 → -10000000000000000 ≤ b → b ≤ 100000 → 4 * wtBL l + 1 < k → emendationref10_spend.f k l d b = some (spBL l d b 0) := by
  induction n with
  | zero => intro l d b k h; omega
  | succ n ih =>
    intro l d b k hn hw hd hd2 hb hb2 hk
    obtain ⟨k, rfl⟩ : ∃ m, k = m + 1 := ⟨k - 1, by omega⟩
    rw [emendationref10_spend.f]
    have hln := wtBL_length l
    have loop : ∀ (t : List BK) (i : Nat) (u : Int) (k : Nat), l.drop i = t → i ≤ l.length → 0 ≤ u → u ≤ 300000000000000000 → 4 * wtBL t < k → SizeOf.sizeOf t ≤ SizeOf.sizeOf l → wtBL t ≤ 2000000 →
        emendationref10_spend.l0 k l d b u (l.length : Int) (i : Int) = some (spBL t d b u) := by
      intro t
      induction t with
      | nil =>
        intro i u k hdr hil hu hu2 hk _ _
        obtain ⟨k, rfl⟩ : ∃ m, k = m + 1 := ⟨k - 1, by omega⟩
        have := drop_nil_len hdr
        rw [emendationref10_spend.l0, if_neg (by omega), spBL]
      | cons x t iht =>
        intro i u k hdr hil hu hu2 hk hsz hwt
        obtain ⟨e1, e2, e3⟩ := rdB_drop l i hdr
        have h1 := sizeB_kids x t
        have h2 := sizeB_tail x t
        rw [wtBL_cons, wtB_eq] at hk hwt
        have hls := wtT_length x.f3
        obtain ⟨k, rfl⟩ : ∃ m, k = m + x.f3.length + 3 := ⟨k - x.f3.length - 3, by omega⟩
        have q1 : (i : Int) < (l.length : Int) := by omega
        have w0 : wrap64 (u + 1000000) = u + 1000000 := wrap_small (by omega) (by omega)
        have w5 : wrap64 ((i : Int) + 1) = ((i + 1 : Nat) : Int) := by rw [wrap_small (by omega) (by omega)]; omega
        have hk1 : k + x.f3.length + 3 = (k + x.f3.length + 1) + 1 + 1 := by omega
        rw [hk1, emendationref10_spend.l0, if_pos q1, spBL]
        by_cases e : d = 0
        · rw [if_pos e, if_pos e, emendationref10_spend.j1, if_pos rfl, w0]
        rw [if_neg e, if_neg e]
        by_cases g : u ≥ b
        · rw [if_pos g, decide_eq_true g, emendationref10_spend.j1, if_pos rfl, w0]
        rw [if_neg g, decide_eq_false g, emendationref10_spend.j1, if_neg (by decide), if_pos (Int.natCast_nonneg i), if_pos q1, e1]
        have p1 : 2 * wtL x.f4 + 1 < k + x.f3.length + 1 := by omega
        have p2 : wtL x.f4 ≤ 2000000 := by omega
        have p3 : SizeOf.sizeOf x.f5 < n := by omega
        have p4 : wtBL x.f5 ≤ 2000000 := by omega
        have p5 : 4 * wtBL x.f5 + 1 < k := by omega
        have p6 : 4 * wtBL t < k := by omega
        have p7 : SizeOf.sizeOf t ≤ SizeOf.sizeOf l := by omega
        have p8 : wtBL t ≤ 2000000 := by omega
        have p9 : wtT x.f3 ≤ 2000000 := by omega
        have p10 : x.f2.size ≤ 2000000 := by omega
        have p11 : wtB x ≤ 2000000 := by rw [wtB_eq]; omega
        have p12 : x.f3.length ≤ 2000000 := by omega
        have pl : wtL x.f4 ≤ 140737488351232 := by omega
        have hoS := okL_of_wt _ x.f4 (Nat.lt_succ_self _) pl
        have hlS := wtL_length x.f4
        have hSz := Size_eq x.f4 (k + x.f3.length + 1) hoS (by omega) p1
        have hown := ownB_bound x p11
        have hsb := spend_bound _ x.f4 30 5000 0 (Nat.lt_succ_self _) hoS (by omega) (by omega)
        have hdef : ownB x = 1 + (x.f2.size : Int) + spendL x.f4 30 5000 0 + (wtT x.f3 : Int) := rfl
        rw [hSz, Option.bind_some]
        generalize spendL x.f4 30 5000 0 = v at hsb hdef ⊢
        have hub : u < 100000 := by omega
        have w1 : wrap64 (u + 1) = u + 1 := wrap_small (by omega) (by omega)
        have w2 : wrap64 (u + 1 + (x.f2.size : Int)) = u + 1 + (x.f2.size : Int) := wrap_small (by omega) (by omega)
        have w3 : wrap64 (u + 1 + (x.f2.size : Int) + v) = u + 1 + (x.f2.size : Int) + v := wrap_small (by omega) (by omega)
        rw [w1, w2, w3]
        have hL := lines_loop l i x e1 e2 d b (l.length : Int) (i : Int) x.f3 0 (u + 1 + (x.f2.size : Int) + v) k List.drop_zero (Nat.zero_le _) p12 (by omega) (by omega)
        have hz : ((0 : Nat) : Int) = 0 := rfl
        rw [hz] at hL
        have hsum : u + 1 + (x.f2.size : Int) + v + (wtT x.f3 : Int) = u + ownB x := by rw [hdef]; omega
        rw [hsum] at hL
        rw [hL]
        have w6 : wrap64 (d - 1) = d - 1 := wrap_small (by omega) (by omega)
        have w7 : wrap64 (b - (u + ownB x)) = b - (u + ownB x) := wrap_small (by omega) (by omega)
        rw [w5, w6, w7, ih x.f5 (d - 1) (b - (u + ownB x)) k p3 p4 (by omega) (by omega) (by omega) (by omega) p5, Option.bind_some]
        have kb := spB_bound n x.f5 (d - 1) (b - (u + ownB x)) 0 p3 p4 (by omega) (by omega)
        have ka := spB_arith u d b (ownB x) _ hu (by omega) hb2 hown.1 hown.2 hd2 kb.1 kb.2
        rw [← spB_eq] at ka
        rw [← spB_eq]
        have w8 : wrap64 (spB x d b u) = spB x d b u := by
          generalize spB x d b u = y at ka
          exact wrap_small (by omega) (by omega)
        rw [w8]
        exact iht (i + 1) _ k e3 e2 ka.1 ka.2 p6 p7 p8
    exact loop l 0 0 k (List.drop_zero) (Nat.zero_le _) (by omega) (by omega) (by omega) (Nat.le_refl _) hw
/-- Whether blocks are few and small enough to be looked at. -/
def fewB (l : List BK) : Bool := decide (spBL l 40 5000 0 < 4000)
theorem fewB_wt (l : List BK) (hw : wtBL l ≤ 2000000) (h : fewB l = true) : wtBL l < 4000 := by
  unfold fewB at h
  have h1 := of_decide_eq_true h
  have := spB_wt _ l 40 5000 0 (Nat.lt_succ_self _) hw (by omega) (by omega) (by omega)
  omega
theorem SizeB_eq (l : List BK) (k : Nat) (hw : wtBL l ≤ 2000000) (hk : 4 * wtBL l + 1 < k) : emendationref10_Size.f k l 40 = some (spBL l 40 5000 0) := by
  unfold emendationref10_Size.f
  rw [spB_run _ l 40 5000 k (Nat.lt_succ_self _) hw (by omega) (by omega) (by omega) (by omega) hk]
  rfl
end Go.Proofs.YtbbkjdcpmhpkjaaDoor.Pure
/-! PTree3 -/
set_option linter.unusedSimpArgs false
set_option linter.unusedVariables false
namespace Go.Proofs.YtbbkjdcpmhpkjaaDoor.Pure
open Go.RowKit Go.Lib Go.Proofs.YtbbkjdcpmhpkjaaDoor.X Go.Proofs.YtbbkjdcpmhpkjaaDoor.G Go.Proofs.YtbbkjdcpmhpkjaaDoorW.PrintWords Go.Proofs.YtbbkjdcpmhpkjaaDoorW.PrintLast Go.Proofs.YtbbkjdcpmhpkjaaDoorW.PrintMore
/-- Normal form. -/
def rightB (l : List BK) : Bool := allB l 0 false && decide (dpBL l ≤ 16)
theorem tree_Right_eq (l : List BK) (k : Nat) (hw : wtBL l ≤ 1000000) (hk : 2 * wtBL l + 1 < k) : tree_Right.f k l = some (rightB l) := by
  unfold tree_Right.f rightB tree_all.f
  rw [if_pos hw, Option.bind_some]
  cases allB l 0 false with
  | false => rfl
  | true =>
    rw [if_pos rfl, tree_Deep_eq _ l k (Nat.lt_succ_self _) (by omega) hk, Option.bind_some, Bool.true_and]
    have : decide ((dpBL l : Int) ≤ 16) = decide (dpBL l ≤ 16) := decide_eq_decide.2 (by omega)
    rw [this]
abbrev mtB : ByteArray := ⟨#[]⟩
theorem wtB_mt (k : Int) (c : List BK) : wtBL [(⟨k, 0, mtB, [], [], c⟩ : BK)] = 1 + wtBL c := by
  rw [wtBL_cons, wtB_eq]
  simp only [wtT, wtL, wtBL]
  show 1 + 0 + 0 + 0 + wtBL c + 0 = _
  omega
theorem emptyB : (L mtB).isEmpty = true := rfl
theorem allB_box (k : Int) (c : List BK) (q : Bool) (hk : k = 5 ∨ k = 6 ∨ k = 7) : allB [(⟨k, 0, mtB, [], [], c⟩ : BK)] 0 q = ((decide (k = 7) == q) && ((decide (k ≠ 6) || !c.isEmpty) && allB c 0 (decide (k = 6)))) := by
  rw [allB_cons, oneB_eq]
  simp only [if_pos hk, emptyB, List.isEmpty_nil, allB, decide_true, Bool.true_and, Bool.and_true, Bool.and_assoc]
  have : decide ((0 : Int) = 6) = false := rfl
  rw [this, Bool.and_false]
  rfl
theorem dpB_box (k : Int) (c : List BK) (hk : k = 5 ∨ k = 6 ∨ k = 7) : dpBL [(⟨k, 0, mtB, [], [], c⟩ : BK)] = dpBL c + 1 := by
  rw [dpBL_cons, if_pos hk]
  simp [dpBL]
theorem cntB_box (k : Int) (c : List BK) : cntBL [(⟨k, 0, mtB, [], [], c⟩ : BK)] = 1 + cntBL c := by
  rw [cntBL_cons]
  simp [cntBL]
theorem allB_rule (q : Bool) : allB [(⟨3, 0, mtB, [], [], []⟩ : BK)] 0 q = !q := by
  rw [allB_cons, oneB_eq]
  cases q <;> rfl
theorem awake10 (k : Nat) (hk : 20 < k) : emendationlaw10_awake.f k = some true := by
  have w1 := wtB_mt 3 []
  have w2 := wtB_mt 5 [⟨3, 0, mtB, [], [], []⟩]
  have w3 := wtB_mt 6 []
  have wn : wtBL ([] : List BK) = 0 := by rw [wtBL]
  rw [wn] at w1 w3
  rw [w1] at w2
  have r1 : rightB [⟨5, 0, mtB, [], [], [⟨3, 0, mtB, [], [], []⟩]⟩] = true := by
    unfold rightB
    rw [allB_box 5 _ _ (Or.inl rfl), dpB_box 5 _ (Or.inl rfl)]
    show (_ && (_ && allB [(⟨3, 0, mtB, [], [], []⟩ : BK)] 0 false) && _) = true
    rw [allB_rule, dpBL_cons]
    simp [dpBL]
  have r2 : rightB [⟨6, 0, mtB, [], [], []⟩] = false := by
    unfold rightB
    rw [allB_box 6 _ _ (Or.inr (Or.inl rfl))]
    rfl
  have d1 : dpBL [(⟨5, 0, mtB, [], [], [⟨3, 0, mtB, [], [], []⟩]⟩ : BK)] = 1 := by
    rw [dpB_box 5 _ (Or.inl rfl), dpBL_cons]
    simp [dpBL]
  have c1 : cntBL [(⟨5, 0, mtB, [], [], [⟨3, 0, mtB, [], [], []⟩]⟩ : BK)] = 2 := by
    rw [cntB_box, cntB_box]
    simp [cntBL]
  unfold emendationlaw10_awake.f
  simp only [mtB] at w1 w2 w3 r1 r2 d1 c1
  rw [Option.bind_some, tree_Right_eq _ k (by rw [w2]; omega) (by rw [w2]; omega), Option.bind_some, r1, if_pos rfl, tree_Deep_eq _ _ k (Nat.lt_succ_self _) (by rw [w2]; omega) (by rw [w2]; omega), Option.bind_some, d1, if_pos (by rfl),
    tree_Count_eq _ _ k (Nat.lt_succ_self _) (by rw [w2]; omega) (by rw [w2]; omega), Option.bind_some, c1, if_pos (by rfl), tree_Right_eq _ k (by rw [w3]; omega) (by rw [w3]; omega), Option.bind_some, r2]
  rfl
theorem few10 (l : List BK) (k : Nat) (hw : wtBL l ≤ 2000000) (hk : 4 * wtBL l + 1 < k) : emendationlaw10_few.f k l = some (fewB l) := by
  unfold emendationlaw10_few.f fewB
  rw [SizeB_eq l k hw hk]
  rfl
end Go.Proofs.YtbbkjdcpmhpkjaaDoor.Pure
