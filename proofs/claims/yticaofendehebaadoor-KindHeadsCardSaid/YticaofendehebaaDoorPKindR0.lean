/- The reference's label: it says labelV, too. -/
import Derived.Test.YticaofendehebaaDoorPAll
import Derived.Test.YticaofendehebaaDoorX12
set_option linter.unusedSimpArgs false
set_option linter.unusedVariables false
namespace Go.Proofs.YticaofendehebaaDoor.Pure
open Go.RowKit Go.Lib Go.Proofs.YticaofendehebaaDoor.X Go.Proofs.YticaofendehebaaDoor.G Go.Proofs.YticaofendehebaaDoorW.PrintWords Go.Proofs.YticaofendehebaaDoorW.PrintLast Go.Proofs.YticaofendehebaaDoorW.PrintMore
section
variable (s : ByteArray) (hs : s.size ≤ 140737488351232)
include hs
theorem has10_l0 (c : UInt8) : ∀ (d i k : Nat), i + d = (L s).length → d < k → emendationref10_has.l0 k s (c.toNat : Int) (i : Int) = some (((L s).drop i).contains c) := by
  have hsl : s.size = (L s).length := L_size s
  intro d
  induction d with
  | zero =>
    intro i k hi hk
    obtain ⟨k, rfl⟩ : ∃ m, k = m + 1 := ⟨k - 1, by omega⟩
    rw [emendationref10_has.l0, if_neg (by omega), List.drop_eq_nil_of_le (by omega)]
    rfl
  | succ d ih =>
    intro i k hi hk
    obtain ⟨k, rfl⟩ : ∃ m, k = m + 1 := ⟨k - 1, by omega⟩
    have q1 : (i : Int) < (s.size : Int) := by omega
    have hw1 : wrap64 ((i : Int) + 1) = ((i + 1 : Nat) : Int) := by rw [wrap_small (by omega) (by omega)]; omega
    have hx := ih (i + 1) k (by omega) (by omega)
    obtain ⟨b, t, hd⟩ : ∃ b t, (L s).drop i = b :: t := by
      rw [List.drop_eq_getElem_cons (by omega)]; exact ⟨_, _, rfl⟩
    rw [drop_tail hd] at hx
    rw [emendationref10_has.l0, if_pos q1, if_pos (Int.natCast_nonneg i), bt_d s i b t hd, hd, hw1, hx, List.contains_cons]
    by_cases g : b = c
    · subst g; simp
    · have g1 : ¬ ((b.toNat : Int) = (c.toNat : Int)) := fun e => g (toNat_inj (Int.ofNat.inj e))
      have g2 : (c == b) = false := beq_eq_false_iff_ne.2 (fun e => g e.symm)
      rw [if_neg g1, g2, Bool.false_or]
theorem has10_eq (c : UInt8) (k : Nat) (hk : s.size < k) : emendationref10_has.f k s (c.toNat : Int) = some ((L s).contains c) := by
  have hsl : s.size = (L s).length := L_size s
  have := has10_l0 s hs c (L s).length 0 k (by omega) (by omega)
  rw [List.drop_zero] at this
  exact this
theorem line10_eq (k : Nat) (hk : 2 * s.size + 40 < k) : emendationref10_line.f k s = some (lineV (L s)) := by
  have h10 := has10_eq s hs 10 k (by omega)
  have h13 := has10_eq s hs 13 k (by omega)
  change emendationref10_has.f k s 10 = _ at h10
  change emendationref10_has.f k s 13 = _ at h13
  unfold emendationref10_line.f lineV
  rw [ref_Check_eq s hs k hk, Option.bind_some, h10, Option.bind_some, h13, Option.bind_some]
  by_cases h : checkV (L s) = 0
  · rw [if_pos h, decide_eq_true h]
    cases (L s).contains 10 <;> cases (L s).contains 13 <;> rfl
  · rw [if_neg h, decide_eq_false h]; rfl
end
theorem gap10_eq (b : UInt8) : emendationref10_gap.f (b.toNat : Int) = some (gapB b) := by
  unfold emendationref10_gap.f
  have h := gapB_iff b
  by_cases h1 : (b.toNat : Int) = 9
  · rw [if_pos h1, h.2 (.inr h1)]
  · rw [if_neg h1]
    by_cases h2 : (b.toNat : Int) = 32
    · rw [h.2 (.inl h2)]; simp [h2]
    · have h3 : gapB b = false := by rw [Bool.eq_false_iff]; intro h4; rcases h.1 h4 with h5 | h5 <;> contradiction
      rw [h3]; simp [h2]
theorem trim_tight (b : UInt8) (m : List UInt8) (c : UInt8) : ∀ l : List UInt8, l = b :: m → l.getLast? = some c → (trim l == l) = (!gapB b && !gapB c) := by
  intro l hl hc
  have hsn : ∃ t, l = t ++ [c] := by
    obtain ⟨h, e⟩ := List.getLast?_eq_some_iff.1 hc
    exact ⟨h, e⟩
  obtain ⟨t, ht⟩ := hsn
  cases hb : gapB b with
  | true =>
    have : trim l ≠ l := by
      intro e
      have h1 : (trim l).length = l.length := by rw [e]
      have h2 : (trim l).length ≤ m.length := by
        unfold trim rdrop
        rw [hl, List.dropWhile_cons, if_pos hb, List.length_reverse]
        have a1 := (List.dropWhile_suffix gapB (l := (m.dropWhile gapB).reverse)).length_le
        have a2 := (List.dropWhile_suffix gapB (l := m)).length_le
        rw [List.length_reverse] at a1
        omega
      rw [h1, hl, List.length_cons] at h2
      omega
    rw [beq_eq_false_iff_ne.2 this]; rfl
  | false =>
    have hd : l.dropWhile gapB = l := by rw [hl, List.dropWhile_cons, if_neg (by rw [hb]; decide)]
    cases hcg : gapB c with
    | true =>
      have : trim l ≠ l := by
        intro e
        have h1 : (trim l).length = l.length := by rw [e]
        have h2 : (trim l).length ≤ t.length := by
          unfold trim
          rw [hd, ht, rdrop_snoc, if_pos hcg]
          unfold rdrop
          rw [List.length_reverse]
          have a1 := (List.dropWhile_suffix gapB (l := t.reverse)).length_le
          rw [List.length_reverse] at a1
          exact a1
        have h3 : l.length = t.length + 1 := by rw [ht, List.length_append]; rfl
        omega
      rw [beq_eq_false_iff_ne.2 this]; rfl
    | false =>
      have : trim l = l := by
        unfold trim
        rw [hd, ht, rdrop_snoc, if_neg (by rw [hcg]; decide)]
      rw [beq_iff_eq.2 this]; rfl
theorem tight_eq (s : ByteArray) (hs : s.size ≤ 140737488351232) : emendationref10_tight.f s = some (trim (L s) == L s) := by
  have hsl : s.size = (L s).length := L_size s
  unfold emendationref10_tight.f
  rw [L_toList]
  by_cases he : L s = []
  · rw [if_pos he, he]; rfl
  obtain ⟨b, m, hbm⟩ : ∃ b m, L s = b :: m := by
    cases h : L s with
    | nil => exact absurd h he
    | cons b m => exact ⟨b, m, rfl⟩
  have hpos : 0 < (L s).length := List.length_pos_iff.2 he
  have hb : bt s 0 = (b.toNat : Int) := bt_d s 0 b m (by rw [List.drop_zero]; exact hbm)
  have hw : wrap64 ((s.size : Int) - 1) = (((L s).length - 1 : Nat) : Int) := by rw [wrap_small (by omega) (by omega)]; omega
  have hlast : bt s (((L s).length - 1 : Nat) : Int) = (((L s)[(L s).length - 1]'(by omega)).toNat : Int) := bt_L s _ (by omega)
  have hc : (L s).getLast? = some ((L s)[(L s).length - 1]'(by omega)) := by rw [List.getLast?_eq_getElem?, List.getElem?_eq_getElem (by omega)]
  have q1 : (((L s).length - 1 : Nat) : Int) < (s.size : Int) := by omega
  rw [if_neg he, if_pos (by omega), hb, gap10_eq, Option.bind_some, trim_tight b m _ (L s) hbm hc]
  cases gapB b with
  | true => rw [if_pos rfl]; rfl
  | false => rw [if_neg (by decide), hw, if_pos (Int.natCast_nonneg _), if_pos q1, hlast, gap10_eq]; rfl
theorem Label10_eq (s : ByteArray) (hs : s.size ≤ 140737488351232) (k : Nat) (hk : 2 * s.size + 40 < k) : emendationref10_Label.f k s = some (labelV (L s)) := by
  have h91 := has10_eq s hs 91 k (by omega)
  have h93 := has10_eq s hs 93 k (by omega)
  have h92 := has10_eq s hs 92 k (by omega)
  change emendationref10_has.f k s 91 = _ at h91
  change emendationref10_has.f k s 93 = _ at h93
  change emendationref10_has.f k s 92 = _ at h92
  unfold emendationref10_Label.f labelV
  rw [L_toList]
  by_cases he : L s = []
  · rw [if_pos he, he]; rfl
  have h1 : (L s).isEmpty = false := by cases h : L s with | nil => exact absurd h he | cons => rfl
  rw [if_neg he, h1, line10_eq s hs k hk, Option.bind_some, tight_eq s hs, Option.bind_some, h91, Option.bind_some, h93, Option.bind_some, h92, Option.bind_some]
  cases lineV (L s) <;> cases (trim (L s) == L s) <;> cases (L s).contains 91 <;> cases (L s).contains 93 <;> cases (L s).contains 92 <;> rfl
end Go.Proofs.YticaofendehebaaDoor.Pure
