/- The reference's normal form: it says rightL, too. -/
import Derived.Test.YtedieaofadhhdaaDoorPAll
import Derived.Test.YtedieaofadhhdaaDoorX6
import Derived.Test.YtedieaofadhhdaaDoorGivenRefRight
set_option linter.unusedSimpArgs false
set_option linter.unusedVariables false
namespace Go.Proofs.YtedieaofadhhdaaDoor.Pure
open Go.RowKit Go.Lib Go.Proofs.YtedieaofadhhdaaDoor.X Go.Proofs.YtedieaofadhhdaaDoor.G Go.Proofs.YtedieaofadhhdaaDoorW.PrintWords Go.Proofs.YtedieaofadhhdaaDoorW.PrintLast Go.Proofs.YtedieaofadhhdaaDoorW.PrintMore
theorem ref_one_eq (R : List S30 → Bool → Bool → Option Bool) (k : Nat) (x : S30) (e m : Bool) (hs : x.f1.size ≤ 1000000) (hk : 20 * x.f1.size + 60 < k)
    (hR : ∀ e m, R x.f2 e m = some (allV x.f2 0 e m)) : emendationref07_one.f R k x.f0 x.f1 x.f2 e m = some (oneV x e m) := by
  have hsl : x.f1.size = (L x.f1).length := L_size x.f1
  have hs2 : x.f1.size ≤ 140737488351232 := Nat.le_trans hs (by decide)
  unfold emendationref07_one.f
  rw [ref_Check_eq x.f1 hs2 k (by omega), Option.bind_some, oneV_eq]
  by_cases hc : checkV (L x.f1) = 0
  rotate_left
  · rw [if_neg hc, decide_eq_false hc]; rfl
  rw [if_pos hc, decide_eq_true hc, Bool.true_and]
  by_cases k1 : x.f0 = 1
  · rw [if_pos k1, if_pos k1, empty_len]
    by_cases hn : (x.f2.length : Int) = 0
    · rw [if_pos hn, decide_eq_true hn, ref_text_eq _ hs2 k (by omega)]; rfl
    · rw [if_neg hn, decide_eq_false hn]; rfl
  rw [if_neg k1, if_neg k1]
  by_cases k2 : x.f0 = 2
  · rw [if_pos k2, if_pos k2, empty_len]
    by_cases hn : (x.f2.length : Int) = 0
    · rw [if_pos hn, decide_eq_true hn, L_toList]
      by_cases he : L x.f1 = []
      · rw [if_pos he, he]; rfl
      · have h1 : (L x.f1).isEmpty = false := by cases h : L x.f1 with | nil => exact absurd h he | cons => rfl
        have g1 := has_eq x.f1 hs2 10 k (by omega)
        have g2 := has_eq x.f1 hs2 13 k (by omega)
        change emendationref07_has.f k x.f1 10 = _ at g1
        change emendationref07_has.f k x.f1 13 = _ at g2
        rw [if_neg he, h1, g1, Option.bind_some]
        cases hb : (L x.f1).contains 10 with
        | true => simp
        | false => rw [if_neg (by decide), g2, Option.bind_some]; simp
    · rw [if_neg hn, decide_eq_false hn]; rfl
  rw [if_neg k2, if_neg k2]
  by_cases k3 : x.f0 = 3
  · rw [if_pos k3, if_pos k3, some_len, L_toList]
    by_cases he : L x.f1 = []
    · rw [if_pos he, he]
      by_cases hn : (x.f2.length : Int) > 0
      · rw [if_pos hn, decide_eq_true hn]
        cases e with
        | true => rfl
        | false => rw [if_neg (by decide), hR]; rfl
      · rw [if_neg hn, decide_eq_false hn]; rfl
    · have h1 : (L x.f1).isEmpty = false := by cases h : L x.f1 with | nil => exact absurd h he | cons => rfl
      rw [if_neg he, h1]; rfl
  rw [if_neg k3, if_neg k3]
  by_cases k4 : x.f0 = 4
  · rw [if_pos k4, if_pos k4, some_len, ref_dest_eq _ hs2 k (by omega), Option.bind_some]
    by_cases he : destL (L x.f1) = true
    · rw [if_pos he, he]
      by_cases hn : (x.f2.length : Int) > 0
      · rw [if_pos hn, decide_eq_true hn]
        cases m with
        | true => rfl
        | false => rw [if_neg (by decide), hR]; rfl
      · rw [if_neg hn, decide_eq_false hn]; rfl
    · rw [if_neg he, Bool.eq_false_iff.mpr he]; rfl
  rw [if_neg k4, if_neg k4]
theorem ref_all_eq (n : Nat) : ∀ (l : List S30) (e m : Bool) (k : Nat), SizeOf.sizeOf l < n → wtL l ≤ 1000000 → 21 * wtL l + 70 < k → emendationref07_all.f k l e m = some (allV l 0 e m) := by
  induction n with
  | zero => intro l e m k h; omega
  | succ n ih =>
    intro l e m k hn hw hk
    obtain ⟨k, rfl⟩ : ∃ j, k = j + 1 := ⟨k - 1, by omega⟩
    have hll := wtL_length l
    have loop : ∀ (t : List S30) (i : Nat) (k : Nat), l.drop i = t → 21 * wtL t + 69 < k → wtL t ≤ 1000000 → SizeOf.sizeOf t ≤ SizeOf.sizeOf l →
        emendationref07_all.l0 k l e m (l.length : Int) (i : Int) = some (allV t (lastK l i) e m) := by
      intro t
      induction t with
      | nil =>
        intro i k hdr hk _ _
        obtain ⟨k, rfl⟩ : ∃ m, k = m + 1 := ⟨k - 1, by omega⟩
        have := drop_nil_len hdr
        rw [emendationref07_all.l0, if_neg (by omega), allV]
      | cons x t iht =>
        intro i k hdr hk hwt hsz
        obtain ⟨k, rfl⟩ : ∃ m, k = m + 1 := ⟨k - 1, by omega⟩
        obtain ⟨e1, e2, e3⟩ := rd_drop l i hdr
        have h1 := size_kids x t
        have h2 := size_tail x t
        rw [wtL_cons] at hk hwt
        have q1 : (i : Int) < (l.length : Int) := by omega
        have w5 : wrap64 ((i : Int) + 1) = ((i + 1 : Nat) : Int) := by rw [wrap_small (by omega) (by omega)]; omega
        have c0 := fun h => pred_facts i l.length h e2 (by omega)
        have hone := ref_one_eq (emendationref07_all.f k) k x e m (by omega) (by omega) (fun e m => ih x.f2 e m k (by omega) (by omega) (by omega))
        have hx := iht (i + 1) k e3 (by omega) (by omega) (by omega)
        rw [lastK_succ l i x e1] at hx
        rw [emendationref07_all.l0, if_pos q1, if_pos (Int.natCast_nonneg i), if_pos q1, e1, hone, Option.bind_some, w5, hx, allV_cons]
        by_cases ho : oneV x e m = true
        · have hk0 := kind_of_one x e m ho
          rw [if_pos ho, ho, Bool.true_and]
          by_cases hi : i = 0
          · subst hi
            rw [if_neg (by decide)]
            have hl : ¬ x.f0 = lastK l 0 := hk0
            rw [decide_eq_false hl]; rfl
          · obtain ⟨c1, c2, c3, w6⟩ := c0 hi
            have e4 : (rd_T30 l ((i - 1 : Nat) : Int)).f0 = lastK l i := by
              unfold lastK rd_T30
              rw [if_neg hi, Int.toNat_natCast]
            rw [if_pos c1, w6, if_pos c2, if_pos c3, e4]
            by_cases hl : x.f0 = lastK l i
            · rw [if_pos hl, decide_eq_true hl]
              by_cases h2 : x.f0 ≤ 2
              · rw [if_pos h2, decide_eq_true h2]; rfl
              · rw [if_neg h2, decide_eq_false h2]; rfl
            · rw [if_neg hl, decide_eq_false hl]; rfl
        · rw [if_neg ho, Bool.eq_false_iff.mpr ho]; rfl
    rw [emendationref07_all.f]
    have := loop l 0 k List.drop_zero (by omega) hw (Nat.le_refl _)
    exact this
theorem ref_Right_eq (l : List S30) (k : Nat) (hw : wtL l ≤ 1000000) (hk : 21 * wtL l + 70 < k) : emendationref07_Right.f k l = some (rightL l) := by
  unfold emendationref07_Right.f rightL
  rw [ref_all_eq (SizeOf.sizeOf l + 1) l false false k (by omega) hw hk, Option.bind_some]
  cases ha : allV l 0 false false with
  | false => rfl
  | true =>
    rw [if_pos rfl, Bool.true_and]
    exact ends_eq emendationref07_edge.f ref_edge_eq l false false ha hw (fun y hy => Nat.le_trans (size_wt l y hy) hw)
end Go.Proofs.YtedieaofadhhdaaDoor.Pure
