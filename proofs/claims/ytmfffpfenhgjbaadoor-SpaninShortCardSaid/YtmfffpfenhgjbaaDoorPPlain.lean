/- What spans read, in plain words: the reference's. -/
import Derived.Test.YtmfffpfenhgjbaaDoorPNormAll
import Derived.Test.YtmfffpfenhgjbaaDoorGivenPlain
import Derived.Test.YtmfffpfenhgjbaaDoorX6
set_option linter.unusedSimpArgs false
set_option linter.unusedVariables false
namespace Go.Proofs.YtmfffpfenhgjbaaDoor.Pure
open Go.RowKit Go.Lib Go.Proofs.YtmfffpfenhgjbaaDoor.X Go.Proofs.YtmfffpfenhgjbaaDoor.G Go.Proofs.YtmfffpfenhgjbaaDoorW.PrintWords Go.Proofs.YtmfffpfenhgjbaaDoorW.PrintLast Go.Proofs.YtmfffpfenhgjbaaDoorW.PrintMore
theorem plainV_eq (x : S26) : plainV x = (if x.f0 = 1 ∨ x.f0 = 2 then L x.f1 else []) ++ plainL x.f2 := by cases x; rw [plainV]; rfl
theorem plainL_cons (x : S26) (t : List S26) : plainL (x :: t) = plainV x ++ plainL t := by rw [plainL]
theorem plain_wt (n : Nat) : ∀ l : List S26, SizeOf.sizeOf l < n → (plainL l).length ≤ wtL l := by
  induction n with
  | zero => intro l h; omega
  | succ n ih =>
    intro l hn
    cases l with
    | nil => simp [plainL, wtL]
    | cons x t =>
      have h1 := size_kids x t
      have h2 := size_tail x t
      have k1 := ih x.f2 (by omega)
      have k2 := ih t (by omega)
      have hsl : x.f1.size = (L x.f1).length := L_size x.f1
      rw [plainL_cons, plainV_eq, wtL_cons, List.length_append, List.length_append]
      split
      · omega
      · rw [List.length_nil]; omega
theorem ref_Plain_eq (n : Nat) : ∀ (l : List S26) (k : Nat), SizeOf.sizeOf l < n → wtL l ≤ 1000000 → 2 * wtL l + 1 < k → emendationref07_Plain.f k l = some ⟨(plainL l).toArray⟩ := by
  induction n with
  | zero => intro l k h; omega
  | succ n ih =>
    intro l k hn hw hk
    obtain ⟨k, rfl⟩ : ∃ j, k = j + 1 := ⟨k - 1, by omega⟩
    have hll := wtL_length l
    have loop : ∀ (t : List S26) (i : Nat) (o : ByteArray) (k : Nat), l.drop i = t → 2 * wtL t < k → wtL t ≤ 1000000 → SizeOf.sizeOf t ≤ SizeOf.sizeOf l → o.size + wtL t ≤ 1000000 →
        emendationref07_Plain.l0 k l o (l.length : Int) (i : Int) = some ⟨(L o ++ plainL t).toArray⟩ := by
      intro t
      induction t with
      | nil =>
        intro i o k hdr hk _ _ _
        obtain ⟨k, rfl⟩ : ∃ m, k = m + 1 := ⟨k - 1, by omega⟩
        have := drop_nil_len hdr
        rw [emendationref07_Plain.l0, if_neg (by omega), plainL, List.append_nil, L_mk']
      | cons x t iht =>
        intro i o k hdr hk hwt hsz ho
        obtain ⟨k, rfl⟩ : ∃ m, k = m + 1 := ⟨k - 1, by omega⟩
        obtain ⟨e1, e2, e3⟩ := rd_drop l i hdr
        have h1 := size_kids x t
        have h2 := size_tail x t
        rw [wtL_cons] at hk hwt ho
        have q1 : (i : Int) < (l.length : Int) := by omega
        have w5 : wrap64 ((i : Int) + 1) = ((i + 1 : Nat) : Int) := by rw [wrap_small (by omega) (by omega)]; omega
        have hp := ih x.f2 k (by omega) (by omega) (by omega)
        have hpl := plain_wt n x.f2 (by omega)
        have hpz : (⟨(plainL x.f2).toArray⟩ : ByteArray).size = (plainL x.f2).length := by rw [L_size, L_mk]
        have c1 : o.size + x.f1.size ≤ 9223372036854775807 := by omega
        have c2 : (o ++ x.f1).size + (⟨(plainL x.f2).toArray⟩ : ByteArray).size ≤ 9223372036854775807 := by rw [size_append, hpz]; omega
        have c3 : o.size + (⟨(plainL x.f2).toArray⟩ : ByteArray).size ≤ 9223372036854775807 := by rw [hpz]; omega
        have z1 : ((o ++ x.f1) ++ (⟨(plainL x.f2).toArray⟩ : ByteArray)).size + wtL t ≤ 1000000 := by rw [size_append, size_append, hpz]; omega
        have z2 : (o ++ (⟨(plainL x.f2).toArray⟩ : ByteArray)).size + wtL t ≤ 1000000 := by rw [size_append, hpz]; omega
        have x1 := iht (i + 1) ((o ++ x.f1) ++ (⟨(plainL x.f2).toArray⟩ : ByteArray)) k e3 (by omega) (by omega) (by omega) z1
        have x2 := iht (i + 1) (o ++ (⟨(plainL x.f2).toArray⟩ : ByteArray)) k e3 (by omega) (by omega) (by omega) z2
        rw [emendationref07_Plain.l0, if_pos q1, if_pos (Int.natCast_nonneg i), if_pos q1, e1, w5, hp, Option.bind_some, Option.bind_some, if_pos c1, if_pos c2, x1, if_pos c3, x2, plainL_cons, plainV_eq, L_append, L_append, L_append, L_mk]
        by_cases k1 : x.f0 = 1
        · rw [if_pos k1, if_pos (.inl k1)]; simp [L_mk]
        · by_cases k2 : x.f0 = 2
          · rw [if_neg k1, if_pos k2, if_pos (.inr k2)]; simp [L_mk]
          · rw [if_neg k1, if_neg k2, if_neg (fun h => h.elim k1 k2)]; simp [L_mk]
    rw [emendationref07_Plain.f]
    have := loop l 0 ⟨#[]⟩ k List.drop_zero (by omega) hw (Nat.le_refl _) (by rw [show (⟨#[]⟩ : ByteArray).size = 0 from rfl]; omega)
    exact this
end Go.Proofs.YtmfffpfenhgjbaaDoor.Pure
