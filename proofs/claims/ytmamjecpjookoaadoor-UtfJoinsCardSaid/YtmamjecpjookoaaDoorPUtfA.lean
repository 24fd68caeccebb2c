/- Characters of texts one behind the other, and of texts cut within a character. -/
import Derived.Test.YtmamjecpjookoaaDoorPUtf2
namespace Go.Proofs.YtmamjecpjookoaaDoor.Pure
open Go.RowKit Go.Lib Go.Proofs.YtmamjecpjookoaaDoor.X Go.Proofs.YtmamjecpjookoaaDoor.G Go.Proofs.YtmamjecpjookoaaDoorW.PrintWords Go.Proofs.YtmamjecpjookoaaDoorW.PrintLast Go.Proofs.YtmamjecpjookoaaDoorW.PrintMore
set_option maxRecDepth 100000 in
set_option maxHeartbeats 4000000 in
theorem nxN_more (n n' b0 b1 b2 b3 c1 c2 c3 : Nat) (_hn : 1 ≤ n) (hnn : n ≤ n') (h1 : 1 < n → c1 = b1) (h2 : 2 < n → c2 = b2) (h3 : 3 < n → c3 = b3) (h : nxN n b0 b1 b2 b3 ≠ (0, 0)) :
    nxN n' b0 c1 c2 c3 = nxN n b0 b1 b2 b3 := by
  unfold nxN decodeN at h ⊢
  by_cases g : b0 < 128
  · rw [if_pos g, if_pos g]
  rw [if_neg g] at h
  rw [if_neg g, if_neg g]
  by_cases g2 : b0 / 32 = 6 ∧ (1 < n ∧ b1 / 64 = 2)
  · obtain rfl := h1 g2.2.1
    rw [if_pos g2, if_pos ⟨g2.1, by omega, g2.2.2⟩]
  rw [if_neg g2] at h
  by_cases g3 : b0 / 16 = 14 ∧ (1 < n ∧ b1 / 64 = 2) ∧ (2 < n ∧ b2 / 64 = 2)
  · obtain rfl := h1 g3.2.1.1
    obtain rfl := h2 g3.2.2.1
    rw [if_neg (show ¬ (b0 / 32 = 6 ∧ (1 < n' ∧ c1 / 64 = 2)) by omega), if_pos ⟨g3.1, ⟨by omega, g3.2.1.2⟩, by omega, g3.2.2.2⟩, if_neg g2, if_pos g3]
  rw [if_neg g3] at h
  by_cases g4 : b0 / 8 = 30 ∧ (1 < n ∧ b1 / 64 = 2) ∧ (2 < n ∧ b2 / 64 = 2) ∧ (3 < n ∧ b3 / 64 = 2)
  · obtain rfl := h1 g4.2.1.1
    obtain rfl := h2 g4.2.2.1.1
    obtain rfl := h3 g4.2.2.2.1
    rw [if_neg (show ¬ (b0 / 32 = 6 ∧ (1 < n' ∧ c1 / 64 = 2)) by omega), if_neg (show ¬ (b0 / 16 = 14 ∧ (1 < n' ∧ c1 / 64 = 2) ∧ (2 < n' ∧ c2 / 64 = 2)) by omega), if_pos ⟨g4.1, ⟨by omega, g4.2.1.2⟩, ⟨by omega, g4.2.2.1.2⟩, by omega, g4.2.2.2.2⟩, if_neg g2, if_neg g3, if_pos g4]
  rw [if_neg g4] at h
  exact absurd rfl h
/-- What a character's bytes are, as far as cuts ask. -/
theorem nxN_shape (n b0 b1 b2 b3 : Nat) (h : nxN n b0 b1 b2 b3 ≠ (0, 0)) :
    (b0 < 128 ∧ (nxN n b0 b1 b2 b3).2 = 1) ∨ (b0 / 32 = 6 ∧ b1 / 64 = 2 ∧ (nxN n b0 b1 b2 b3).2 = 2) ∨ (b0 / 16 = 14 ∧ b1 / 64 = 2 ∧ b2 / 64 = 2 ∧ (nxN n b0 b1 b2 b3).2 = 3) ∨ (b0 / 8 = 30 ∧ b1 / 64 = 2 ∧ b2 / 64 = 2 ∧ b3 / 64 = 2 ∧ (nxN n b0 b1 b2 b3).2 = 4) := by
  unfold nxN decodeN at h ⊢
  by_cases g : b0 < 128
  · rw [if_pos g]
    exact .inl ⟨g, by unfold nxp; rw [if_neg (by simp; omega)]⟩
  rw [if_neg g] at h ⊢
  by_cases g2 : b0 / 32 = 6 ∧ (1 < n ∧ b1 / 64 = 2)
  · rw [if_pos g2] at h ⊢
    refine .inr (.inl ⟨g2.1, g2.2.2, ?_⟩)
    split at h
    · rename_i q; rw [if_pos q, nxp_ok _ _ (by decide)]
    · exact absurd rfl h
  rw [if_neg g2] at h ⊢
  by_cases g3 : b0 / 16 = 14 ∧ (1 < n ∧ b1 / 64 = 2) ∧ (2 < n ∧ b2 / 64 = 2)
  · rw [if_pos g3] at h ⊢
    refine .inr (.inr (.inl ⟨g3.1, g3.2.1.2, g3.2.2.2, ?_⟩))
    split at h
    · rename_i q; rw [if_pos q, nxp_ok _ _ (by decide)]
    · exact absurd rfl h
  rw [if_neg g3] at h ⊢
  by_cases g4 : b0 / 8 = 30 ∧ (1 < n ∧ b1 / 64 = 2) ∧ (2 < n ∧ b2 / 64 = 2) ∧ (3 < n ∧ b3 / 64 = 2)
  · rw [if_pos g4] at h ⊢
    refine .inr (.inr (.inr ⟨g4.1, g4.2.1.2, g4.2.2.1.2, g4.2.2.2.2, ?_⟩))
    split at h
    · rename_i q; rw [if_pos q, nxp_ok _ _ (by decide)]
    · exact absurd rfl h
  rw [if_neg g4] at h
  exact absurd rfl h
theorem nxN_bad (n b0 b1 b2 b3 : Nat) (h : (128 ≤ b0 ∧ b0 / 64 = 2) ∨ (b0 / 32 = 6 ∧ n ≤ 1) ∨ (b0 / 16 = 14 ∧ n ≤ 2) ∨ (b0 / 8 = 30 ∧ n ≤ 3)) : nxN n b0 b1 b2 b3 = (0, 0) := by
  unfold nxN decodeN
  rw [if_neg (by omega), if_neg (by omega), if_neg (by omega), if_neg (by omega)]
  rfl
theorem nx_pair (l : List UInt8) : (nx l).2 = 0 ↔ nx l = (0, 0) := by
  constructor
  · intro h
    rcases Decidable.em (l = []) with rfl | hl
    · rfl
    · unfold nx at h ⊢
      rw [if_neg hl] at h ⊢
      unfold nxp at h ⊢
      split at h
      · rename_i q; rw [if_pos q]
      · have := (decodeL_bound l).2.1; omega
  · intro h; rw [h]
theorem b_append (x y : List UInt8) (j : Nat) (h : j < x.length) : b_ (x ++ y) j = b_ x j := by
  unfold b_
  simp [List.getD, List.getElem?_append_left h]
theorem nx_append (x y : List UInt8) (h : (nx x).2 ≠ 0) : nx (x ++ y) = nx x := by
  have hx : x ≠ [] := by rintro rfl; exact h rfl
  have hl : 0 < x.length := List.length_pos_iff.2 hx
  have hne : nx x ≠ (0, 0) := fun e => h (by rw [e])
  rw [nx_N x hx] at hne ⊢
  rw [nx_N (x ++ y) (by simp [hx])]
  rw [b_append x y 0 hl]
  exact nxN_more _ _ _ _ _ _ _ _ _ (by omega) (by simp) (fun q => b_append x y 1 q) (fun q => b_append x y 2 q) (fun q => b_append x y 3 q) hne
/-- A text behind a text. -/
theorem valid_append (x y : List UInt8) (h : validD x = true) : validD (x ++ y) = validD y := by
  suffices ∀ (n : Nat) (x : List UInt8), x.length ≤ n → validD x = true → validD (x ++ y) = validD y from this x.length x (Nat.le_refl _) h
  intro n
  induction n with
  | zero =>
    intro x hx _
    obtain rfl := List.eq_nil_of_length_eq_zero (Nat.le_zero.1 hx)
    rfl
  | succ n ih =>
    intro x hx h
    rcases Decidable.em (x = []) with rfl | hne
    · rfl
    rw [valid_nx x hne] at h
    rw [valid_nx (x ++ y) (by simp [hne])]
    by_cases e : (nx x).2 = 0
    · rw [if_pos e] at h; cases h
    rw [if_neg e] at h
    rw [nx_append x y e, if_neg e, List.drop_append_of_le_length (nx_le x)]
    exact ih _ (by rw [List.length_drop]; omega) h
set_option maxRecDepth 100000 in
set_option maxHeartbeats 4000000 in
theorem nxN_alone (n b0 b1 b2 b3 c1 c2 c3 : Nat) (h : nxN n b0 b1 b2 b3 ≠ (0, 0)) (h1 : 1 < (nxN n b0 b1 b2 b3).2 → c1 = b1) (h2 : 2 < (nxN n b0 b1 b2 b3).2 → c2 = b2) (h3 : 3 < (nxN n b0 b1 b2 b3).2 → c3 = b3) :
    nxN (nxN n b0 b1 b2 b3).2 b0 c1 c2 c3 = nxN n b0 b1 b2 b3 := by
  have key : ∀ m, (nxN n b0 b1 b2 b3).2 = m → nxN m b0 c1 c2 c3 = nxN n b0 b1 b2 b3 := by
    intro m hm
    rw [hm] at h1 h2 h3
    rcases nxN_shape n b0 b1 b2 b3 h with ⟨q, e⟩ | ⟨q, q1, e⟩ | ⟨q, q1, q2, e⟩ | ⟨q, q1, q2, q3, e⟩
    · unfold nxN decodeN; rw [if_pos q, if_pos q]
    · have a1 : ¬ b0 < 128 := by omega
      obtain rfl : m = 2 := by omega
      obtain rfl := h1 (by decide)
      have g : 1 < n := by
        rcases Nat.lt_or_ge 1 n with g | g
        · exact g
        · exact absurd (nxN_bad n b0 c1 b2 b3 (by omega)) h
      unfold nxN decodeN
      rw [if_neg a1, if_neg a1, if_pos (show b0 / 32 = 6 ∧ (1 < 2 ∧ c1 / 64 = 2) from ⟨q, by omega, q1⟩), if_pos (show b0 / 32 = 6 ∧ (1 < n ∧ c1 / 64 = 2) from ⟨q, g, q1⟩)]
    · have a1 : ¬ b0 < 128 := by omega
      obtain rfl : m = 3 := by omega
      obtain rfl := h1 (by decide)
      obtain rfl := h2 (by decide)
      have g : 2 < n := by
        rcases Nat.lt_or_ge 2 n with g | g
        · exact g
        · exact absurd (nxN_bad n b0 c1 c2 b3 (by omega)) h
      unfold nxN decodeN
      rw [if_neg a1, if_neg a1, if_neg (show ¬ (b0 / 32 = 6 ∧ (1 < 3 ∧ c1 / 64 = 2)) by omega), if_neg (show ¬ (b0 / 32 = 6 ∧ (1 < n ∧ c1 / 64 = 2)) by omega), if_pos (show b0 / 16 = 14 ∧ (1 < 3 ∧ c1 / 64 = 2) ∧ (2 < 3 ∧ c2 / 64 = 2) from ⟨q, ⟨by omega, q1⟩, by omega, q2⟩), if_pos (show b0 / 16 = 14 ∧ (1 < n ∧ c1 / 64 = 2) ∧ (2 < n ∧ c2 / 64 = 2) from ⟨q, ⟨by omega, q1⟩, g, q2⟩)]
    · have a1 : ¬ b0 < 128 := by omega
      obtain rfl : m = 4 := by omega
      obtain rfl := h1 (by decide)
      obtain rfl := h2 (by decide)
      obtain rfl := h3 (by decide)
      have g : 3 < n := by
        rcases Nat.lt_or_ge 3 n with g | g
        · exact g
        · exact absurd (nxN_bad n b0 c1 c2 c3 (by omega)) h
      unfold nxN decodeN
      rw [if_neg a1, if_neg a1, if_neg (show ¬ (b0 / 32 = 6 ∧ (1 < 4 ∧ c1 / 64 = 2)) by omega), if_neg (show ¬ (b0 / 32 = 6 ∧ (1 < n ∧ c1 / 64 = 2)) by omega), if_neg (show ¬ (b0 / 16 = 14 ∧ (1 < 4 ∧ c1 / 64 = 2) ∧ (2 < 4 ∧ c2 / 64 = 2)) by omega), if_neg (show ¬ (b0 / 16 = 14 ∧ (1 < n ∧ c1 / 64 = 2) ∧ (2 < n ∧ c2 / 64 = 2)) by omega), if_pos (show b0 / 8 = 30 ∧ (1 < 4 ∧ c1 / 64 = 2) ∧ (2 < 4 ∧ c2 / 64 = 2) ∧ (3 < 4 ∧ c3 / 64 = 2) from ⟨q, ⟨by omega, q1⟩, ⟨by omega, q2⟩, by omega, q3⟩), if_pos (show b0 / 8 = 30 ∧ (1 < n ∧ c1 / 64 = 2) ∧ (2 < n ∧ c2 / 64 = 2) ∧ (3 < n ∧ c3 / 64 = 2) from ⟨q, ⟨by omega, q1⟩, ⟨by omega, q2⟩, g, q3⟩)]
  exact key _ rfl
/-- A character alone is a text. -/
theorem valid_alone (l : List UInt8) (h : (nx l).2 ≠ 0) : validD (l.take (nx l).2) = true := by
  have hl : l ≠ [] := by rintro rfl; exact h rfl
  have hle := nx_le l
  have hne : nx l ≠ (0, 0) := fun e => h (by rw [e])
  have hlen : (l.take (nx l).2).length = (nx l).2 := by rw [List.length_take]; omega
  have ht : l.take (nx l).2 ≠ [] := by
    intro e
    rw [e] at hlen
    exact h hlen.symm
  have hb : ∀ j, j < (nx l).2 → b_ (l.take (nx l).2) j = b_ l j := by
    intro j hj
    conv => rhs; rw [← List.take_append_drop (nx l).2 l]
    exact (b_append _ _ j (by omega)).symm
  have e : nx (l.take (nx l).2) = nx l := by
    rw [nx_N _ ht, hlen, hb 0 (by omega)]
    have hs := nx_N l hl
    rw [hs] at hne hb ⊢
    exact nxN_alone _ _ _ _ _ _ _ _ hne (hb 1) (hb 2) (hb 3)
  rw [valid_nx _ ht, e, if_neg h, List.drop_eq_nil_of_le (by omega)]
  rfl
/-- A character's first bytes alone, and what is left of it ahead of anything, are no text. -/
theorem nx_cut (l : List UInt8) (j : Nat) (h0 : 0 < j) (h : j < (nx l).2) : validD (l.take j) = false ∧ validD (l.drop j) = false := by
  have hl : l ≠ [] := by rintro rfl; cases h
  have hle := nx_le l
  have hne : nx l ≠ (0, 0) := fun e => by rw [e] at h; cases h
  have hs := nx_N l hl
  rw [hs] at hne h hle
  have sh := nxN_shape _ _ _ _ _ hne
  have ht : l.take j ≠ [] := by
    intro e
    have := congrArg List.length e
    rw [List.length_take, List.length_nil] at this
    omega
  have hd : l.drop j ≠ [] := by
    intro e
    have := congrArg List.length e
    rw [List.length_drop, List.length_nil] at this
    omega
  have hb0 : b_ (l.take j) 0 = b_ l 0 := by
    conv => rhs; rw [← List.take_append_drop j l]
    exact (b_append _ _ 0 (by rw [List.length_take]; omega)).symm
  have hdb : b_ (l.drop j) 0 = b_ l j := by
    unfold b_
    simp [List.getD]
  constructor
  · rw [valid_nx _ ht, nx_N _ ht, hb0, nxN_bad]
    · rfl
    · rw [List.length_take]; omega
  · rw [valid_nx _ hd, nx_N _ hd, nxN_bad]
    · rfl
    · rw [hdb]
      have hj : j = 1 ∨ j = 2 ∨ j = 3 := by omega
      left
      rcases hj with rfl | rfl | rfl <;> omega
end Go.Proofs.YtmamjecpjookoaaDoor.Pure
