/- Spans in plain words: the reference's size. -/
import Derived.Test.YtmfffpfenhgjbaaDoorPNormAll
import Derived.Test.YtmfffpfenhgjbaaDoorX6
set_option linter.unusedSimpArgs false
set_option linter.unusedVariables false
namespace Go.Proofs.YtmfffpfenhgjbaaDoor.Pure
open Go.RowKit Go.Lib Go.Proofs.YtmfffpfenhgjbaaDoor.X Go.Proofs.YtmfffpfenhgjbaaDoor.G Go.Proofs.YtmfffpfenhgjbaaDoorW.PrintWords Go.Proofs.YtmfffpfenhgjbaaDoorW.PrintLast Go.Proofs.YtmfffpfenhgjbaaDoorW.PrintMore

mutual
/-- What the reference counts, with a greatest depth and an amount that it may spend. -/
def spendV : S26 → Int → Int → Int → Int
  | ⟨_, s, c⟩, d, b, u => (u + 1 + s.size) + spendL c (d - 1) (b - (u + 1 + s.size)) 0
def spendL : List S26 → Int → Int → Int → Int
  | [], _, _, u => u
  | x :: t, d, b, u => if d = 0 then u + 1000000 else if u ≥ b then u + 1000000 else spendL t d b (spendV x d b u)
end
theorem spendV_eq (x : S26) (d b u : Int) : spendV x d b u = (u + 1 + x.f1.size) + spendL x.f2 (d - 1) (b - (u + 1 + x.f1.size)) 0 := by cases x; rw [spendV]
theorem spend_over (l : List S26) (d b u : Int) (h : u ≥ b) : u ≤ spendL l d b u ∧ spendL l d b u ≤ u + 1000000 := by
  cases l with
  | nil => rw [spendL]; omega
  | cons x t => rw [spendL]; (repeat' split) <;> omega
theorem spend_bound (n : Nat) : ∀ (l : List S26) (d b u : Int), SizeOf.sizeOf l < n → okL l → 0 ≤ d → 0 ≤ u → u ≤ spendL l d b u ∧ spendL l d b u ≤ max u b + (d + 1) * 140737489351233 := by
  induction n with
  | zero => intro l d b u h; omega
  | succ n ih =>
    intro l d b u hn ho hd hu
    have hd1 : (0 : Int) ≤ (d + 1) * 140737489351233 := Int.mul_nonneg (by omega) (by omega)
    cases l with
    | nil => rw [spendL]; omega
    | cons x t =>
      have h1 := size_kids x t
      have h2 := size_tail x t
      obtain ⟨⟨hs, _, hk⟩, ht⟩ := (okL_cons x t).1 ho
      rw [spendL]
      by_cases e : d = 0
      · rw [if_pos e]; subst e; omega
      rw [if_neg e]
      by_cases g : u ≥ b
      · rw [if_pos g]
        have : (140737489351233 : Int) ≤ (d + 1) * 140737489351233 := by omega
        omega
      rw [if_neg g, spendV_eq]
      have k1 := ih x.f2 (d - 1) (b - (u + 1 + x.f1.size)) 0 (by omega) hk (by omega) (by omega)
      generalize spendL x.f2 (d - 1) (b - (u + 1 + x.f1.size)) 0 = v at k1 ⊢
      by_cases g2 : u + 1 + x.f1.size + v ≥ b
      · have k2 := spend_over t d b _ g2
        omega
      · have k2 := ih t d b (u + 1 + x.f1.size + v) (by omega) ht hd (by omega)
        omega
theorem spend_wt (n : Nat) : ∀ (l : List S26) (d b u : Int), SizeOf.sizeOf l < n → okL l → 0 ≤ d → 0 ≤ u → spendL l d b u < 1000000 → spendL l d b u = u + wtL l := by
  induction n with
  | zero => intro l d b u h; omega
  | succ n ih =>
    intro l d b u hn ho hd hu h
    cases l with
    | nil => rw [spendL, wtL]; omega
    | cons x t =>
      have h1 := size_kids x t
      have h2 := size_tail x t
      obtain ⟨⟨hs, _, hk⟩, ht⟩ := (okL_cons x t).1 ho
      rw [spendL] at h ⊢
      by_cases e : d = 0
      · rw [if_pos e] at h; omega
      rw [if_neg e] at h ⊢
      by_cases g : u ≥ b
      · rw [if_pos g] at h; omega
      rw [if_neg g, spendV_eq] at h ⊢
      have k1 := spend_bound n x.f2 (d - 1) (b - (u + 1 + x.f1.size)) 0 (by omega) hk (by omega) (by omega)
      have k0 := spend_bound n t d b (u + 1 + x.f1.size + spendL x.f2 (d - 1) (b - (u + 1 + x.f1.size)) 0) (by omega) ht hd (by omega)
      have k2 := ih x.f2 (d - 1) (b - (u + 1 + x.f1.size)) 0 (by omega) hk (by omega) (by omega) (by omega)
      have k3 := ih t d b _ (by omega) ht hd (by omega) h
      rw [k3, k2, wtL_cons]
      omega
theorem spend_arith (u d b z v : Int) (hu : 0 ≤ u) (hub : u < b) (hb : b ≤ 100000) (hz : 0 ≤ z) (hz2 : z ≤ 140737488351232) (hd : d ≤ 30) (h0 : 0 ≤ v) (h1 : v ≤ max 0 (b - (u + 1 + z)) + (d - 1 + 1) * 140737489351233) : 0 ≤ u + 1 + z + v ∧ u + 1 + z + v ≤ 5000000000000000 := by
  have kd : (d - 1 + 1) * 140737489351233 ≤ 30 * 140737489351233 := Int.mul_le_mul_of_nonneg_right (by omega) (by omega)
  generalize (d - 1 + 1) * 140737489351233 = y at *
  omega
theorem spend_eq (n : Nat) : ∀ (l : List S26) (d b : Int) (k : Nat), SizeOf.sizeOf l < n → okL l → l.length ≤ 140737488351232 → 0 ≤ d → d ≤ 30 → -281474976702464 ≤ b → b ≤ 100000 → 2 * wtL l + 1 < k → emendationref07_spend.f k l d b = some (spendL l d b 0) := by
  induction n with
  | zero => intro l d b k h; omega
  | succ n ih =>
    intro l d b k hn ho hl hd hd2 hb hb2 hk
    obtain ⟨k, rfl⟩ : ∃ m, k = m + 1 := ⟨k - 1, by omega⟩
    rw [emendationref07_spend.f]
    have loop : ∀ (t : List S26) (i : Nat) (u : Int) (k : Nat), l.drop i = t → i ≤ l.length → 0 ≤ u → u ≤ 5000000000000000 → 2 * wtL t < k → SizeOf.sizeOf t ≤ SizeOf.sizeOf l → okL t →
        emendationref07_spend.l0 k l d b u (l.length : Int) (i : Int) = some (spendL t d b u) := by
      intro t
      induction t with
      | nil =>
        intro i u k hdr hil hu hu2 hk _ _
        obtain ⟨k, rfl⟩ : ∃ m, k = m + 1 := ⟨k - 1, by omega⟩
        have := drop_nil_len hdr
        rw [emendationref07_spend.l0, if_neg (by omega), spendL]
      | cons x t iht =>
        intro i u k hdr hil hu hu2 hk hsz hot
        obtain ⟨k, rfl⟩ : ∃ m, k = m + 1 := ⟨k - 1, by omega⟩
        obtain ⟨e1, e2, e3⟩ := rd_drop l i hdr
        obtain ⟨⟨hs, hkl, hko⟩, hto⟩ := (okL_cons x t).1 hot
        have h1 := size_kids x t
        have h2 := size_tail x t
        rw [wtL_cons] at hk
        have q1 : (i : Int) < (l.length : Int) := by omega
        rw [emendationref07_spend.l0, if_pos q1, spendL]
        have w0 : wrap64 (u + 1000000) = u + 1000000 := wrap_small (by omega) (by omega)
        by_cases e : d = 0
        · rw [if_pos e, if_pos e, w0]
        rw [if_neg e, if_neg e]
        by_cases g : u ≥ b
        · rw [if_pos g, if_pos g, w0]
        have p4 : 2 * wtL t < k := by omega
        have p5 : SizeOf.sizeOf t ≤ SizeOf.sizeOf l := by omega
        have p6 : SizeOf.sizeOf x.f2 < n := by omega
        have p7 : 2 * wtL x.f2 + 1 < k := by omega
        have p8 : 0 ≤ d - 1 := by omega
        have p9 : (x.f1.size : Int) ≤ 140737488351232 := by omega
        have p10 : d - 1 ≤ 30 := by omega
        have p11 : -281474976702464 ≤ b - (u + 1 + (x.f1.size : Int)) := by omega
        have p12 : b - (u + 1 + (x.f1.size : Int)) ≤ 100000 := by omega
        have w1 : wrap64 (u + 1) = u + 1 := wrap_small (by omega) (by omega)
        have w2 : wrap64 (u + 1 + (x.f1.size : Int)) = u + 1 + x.f1.size := wrap_small (by omega) (by omega)
        have w3 : wrap64 (b - (u + 1 + (x.f1.size : Int))) = b - (u + 1 + x.f1.size) := wrap_small (by omega) (by omega)
        have w4 : wrap64 (d - 1) = d - 1 := wrap_small (by omega) (by omega)
        have w5 : wrap64 ((i : Int) + 1) = ((i + 1 : Nat) : Int) := by rw [wrap_small (by omega) (by omega)]; omega
        rw [if_neg g, if_neg g, if_pos (Int.natCast_nonneg i), if_pos q1, e1, w1, w2, w3, w4, w5]
        have kb := spend_bound n x.f2 (d - 1) (b - (u + 1 + x.f1.size)) 0 p6 hko p8 (by omega)
        have ka := spend_arith u d b x.f1.size _ hu (by omega) hb2 (Int.natCast_nonneg _) p9 hd2 kb.1 kb.2
        rw [ih x.f2 (d - 1) (b - (u + 1 + x.f1.size)) k p6 hko hkl p8 p10 p11 p12 p7, Option.bind_some]
        rw [← spendV_eq] at ka
        have w6 : wrap64 (u + 1 + (x.f1.size : Int) + spendL x.f2 (d - 1) (b - (u + 1 + x.f1.size)) 0) = spendV x d b u := by
          rw [← spendV_eq]
          generalize spendV x d b u = y at ka
          exact wrap_small (by omega) (by omega)
        rw [w6]
        exact iht (i + 1) _ k e3 e2 ka.1 ka.2 p4 p5 hto
    have := loop l 0 0 k (List.drop_zero) (Nat.zero_le _) (by omega) (by omega) (by omega) (Nat.le_refl _) ho
    exact this
/-- Whether spans are few and small enough to be looked at. -/
def fewL (l : List S26) : Bool := decide (spendL l 30 5000 0 < 3000)
theorem few_wt (l : List S26) (ho : okL l) (h : fewL l = true) : wtL l < 3000 := by
  unfold fewL at h
  have h1 := of_decide_eq_true h
  have := spend_wt (SizeOf.sizeOf l + 1) l 30 5000 0 (by omega) ho (by omega) (by omega) (by omega)
  omega
theorem Size_eq (l : List S26) (k : Nat) (ho : okL l) (hl : l.length ≤ 140737488351232) (hk : 2 * wtL l + 1 < k) : emendationref07_Size.f k l 30 = some (spendL l 30 5000 0) := by
  unfold emendationref07_Size.f
  rw [spend_eq (SizeOf.sizeOf l + 1) l 30 5000 k (by omega) ho hl (by omega) (by omega) (by omega) (by omega) hk]
  rfl
end Go.Proofs.YtmfffpfenhgjbaaDoor.Pure
