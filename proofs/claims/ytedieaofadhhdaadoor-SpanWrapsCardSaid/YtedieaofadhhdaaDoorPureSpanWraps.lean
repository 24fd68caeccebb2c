/- The law SpanWraps, as a statement of lists of spans. -/
import Derived.Test.YtedieaofadhhdaaDoorPAll
import Derived.Test.YtedieaofadhhdaaDoorX9
set_option linter.unusedSimpArgs false
set_option linter.unusedVariables false
namespace Go.Proofs.YtedieaofadhhdaaDoor.Pure
open Go.RowKit Go.Lib Go.Proofs.YtedieaofadhhdaaDoor.X Go.Proofs.YtedieaofadhhdaaDoor.G Go.Proofs.YtedieaofadhhdaaDoorW.PrintWords Go.Proofs.YtedieaofadhhdaaDoorW.PrintLast Go.Proofs.YtedieaofadhhdaaDoorW.PrintMore
theorem kind_eq (n : Nat) : ∀ (l : List S30) (q : Int) (k : Nat), SizeOf.sizeOf l < n → wtL l ≤ 1000000 → 2 * wtL l + 1 < k → emendationlaw07_kind.f k l q = some (kindL l q) := by
  induction n with
  | zero => intro l q k h; omega
  | succ n ih =>
    intro l q k hn hw hk
    obtain ⟨k, rfl⟩ : ∃ j, k = j + 1 := ⟨k - 1, by omega⟩
    have hll := wtL_length l
    have loop : ∀ (t : List S30) (i : Nat) (k : Nat), l.drop i = t → 2 * wtL t < k → wtL t ≤ 1000000 → SizeOf.sizeOf t ≤ SizeOf.sizeOf l →
        emendationlaw07_kind.l0 k l q (l.length : Int) (i : Int) = some (kindL t q) := by
      intro t
      induction t with
      | nil =>
        intro i k hdr hk _ _
        obtain ⟨k, rfl⟩ : ∃ m, k = m + 1 := ⟨k - 1, by omega⟩
        have := drop_nil_len hdr
        rw [emendationlaw07_kind.l0, if_neg (by omega), kindL]
      | cons x t iht =>
        intro i k hdr hk hwt hsz
        obtain ⟨k, rfl⟩ : ∃ m, k = m + 1 := ⟨k - 1, by omega⟩
        obtain ⟨e1, e2, e3⟩ := rd_drop l i hdr
        have h1 := size_kids x t
        have h2 := size_tail x t
        rw [wtL_cons] at hk hwt
        have q1 : (i : Int) < (l.length : Int) := by omega
        have w5 : wrap64 ((i : Int) + 1) = ((i + 1 : Nat) : Int) := by rw [wrap_small (by omega) (by omega)]; omega
        have hp := ih x.f2 q k (by omega) (by omega) (by omega)
        have x1 := iht (i + 1) k e3 (by omega) (by omega) (by omega)
        rw [emendationlaw07_kind.l0, if_pos q1, if_pos (Int.natCast_nonneg i), if_pos q1, e1, w5, hp, Option.bind_some, x1, kindL_cons, kindV_eq]
        by_cases k1 : x.f0 = q
        · rw [if_pos k1, decide_eq_true k1]; rfl
        · rw [if_neg k1, decide_eq_false k1]
          cases kindL x.f2 q <;> rfl
    rw [emendationlaw07_kind.f]
    exact loop l 0 k List.drop_zero (by omega) hw (Nat.le_refl _)
theorem right_emph (l : List S30) (h : rightL l = true) : rightL [(⟨3, (⟨#[]⟩ : ByteArray), l⟩ : S30)] = (!l.isEmpty && !kindL l 3) := by
  have ha : allV l 0 false false = true := (Bool.and_eq_true_iff.1 h).1
  have he : L (⟨#[]⟩ : ByteArray) = [] := rfl
  unfold rightL endsOk
  rw [allV_cons, oneV_eq, allV, all_emph (SizeOf.sizeOf l + 1) l 0 false (by omega), ha]
  simp only [he, check_nil]
  simp
theorem right_link (l : List S30) (s : ByteArray) (hs : s.size ≤ 1000000) (h : rightL l = true) : rightL [(⟨4, s, l⟩ : S30)] = (!l.isEmpty && !kindL l 4 && destL (L s)) := by
  have ha : allV l 0 false false = true := (Bool.and_eq_true_iff.1 h).1
  unfold rightL endsOk
  rw [allV_cons, oneV_eq, allV, all_link (SizeOf.sizeOf l + 1) l 0 false (by omega), ha]
  cases hd : destL (L s) with
  | false => simp [hd]
  | true =>
    have hc := check_dest (L s) hd (by rw [← L_size]; omega)
    simp [hd, hc]
theorem SpanWraps (l0 : List S30) (a1 : ByteArray) (h0 : okL l0 ∧ l0.length ≤ 140737488351232) (h1 : a1.size ≤ 140737488351232) : ∃ k, emendationlaw07_SpanWraps.f k l0 a1 = some true := by
  obtain ⟨K, hK⟩ : ∃ K, K = 3 * wtL l0 + 300000 := ⟨_, rfl⟩
  refine ⟨K + 1, ?_⟩
  unfold emendationlaw07_SpanWraps.f
  have hA : ∀ k, 100 < k → emendationlaw07_SpanWraps.j0 (k + 1) l0 a1 true = some true := fun k hk => by rw [emendationlaw07_SpanWraps.j0, if_pos rfl, awake07 _ hk]; rfl
  have hAK := hA K (by omega)
  rw [awake07 _ (by omega), Option.bind_some, if_pos rfl, few07 _ _ h0.1 h0.2 (by omega), Option.bind_some]
  cases hf0 : fewL l0 with
  | false => rw [if_neg (by decide)]; exact hAK
  | true =>
    rw [if_pos rfl]
    by_cases h : (a1.size : Int) > 1000
    · rw [if_pos h]; exact hAK
    · have w0 := few_wt l0 h0.1 hf0
      rw [if_neg h, Right_eq l0 _ (by omega) (by omega), Option.bind_some]
      cases hr : rightL l0 with
      | false => exact hAK
      | true =>
        have q1 : wtL [(⟨3, (⟨#[]⟩ : ByteArray), l0⟩ : S30)] = 1 + wtL l0 := by
          rw [wtL_cons]
          simp only [wtL]
          rw [show (⟨#[]⟩ : ByteArray).size = 0 from rfl]
          omega
        have q2 : wtL [(⟨4, a1, l0⟩ : S30)] = 1 + a1.size + wtL l0 := by
          rw [wtL_cons]
          simp only [wtL]
          omega
        have q3 := Right_eq [(⟨3, (⟨#[]⟩ : ByteArray), l0⟩ : S30)] K (by omega) (by omega)
        have q4 := Right_eq [(⟨4, a1, l0⟩ : S30)] K (by omega) (by omega)
        have q5 := kind_eq (SizeOf.sizeOf l0 + 1) l0 3 K (by omega) (by omega) (by omega)
        have q6 := kind_eq (SizeOf.sizeOf l0 + 1) l0 4 K (by omega) (by omega) (by omega)
        have q7 := ref_dest_eq a1 h1 K (by omega)
        have q8 := right_emph l0 hr
        have q9 := right_link l0 a1 (by omega) hr
        rw [Bool.not_true, emendationlaw07_SpanWraps.j0, if_neg (by decide), q3, Option.bind_some, q4, Option.bind_some, q5, Option.bind_some, q6, Option.bind_some, q7, Option.bind_some, q8, q9]
        by_cases g : (l0.length : Int) > 0
        · have ge : l0.isEmpty = false := by cases l0 with | nil => exact absurd g (by decide) | cons => rfl
          rw [if_pos g, ge]
          cases kindL l0 3 <;> cases kindL l0 4 <;> cases destL (L a1) <;> rfl
        · have ge : l0.isEmpty = true := by cases l0 with | nil => rfl | cons x t => exact absurd (by rw [List.length_cons]; omega) g
          rw [if_neg g, ge]
          cases kindL l0 3 <;> cases kindL l0 4 <;> cases destL (L a1) <;> rfl
end Go.Proofs.YtedieaofadhhdaaDoor.Pure
