/- Words for the laws of this seat, several texts behind one another. -/
import Derived.Test.YticaofendehebaaDoorPAll
import Derived.Test.YticaofendehebaaDoorX12
import Derived.Test.YticaofendehebaaDoorX13
import Derived.Test.YticaofendehebaaDoorX14
import Derived.Test.YticaofendehebaaDoorX19
/-! PKindR0 -/
set_option linter.unusedSimpArgs false
set_option linter.unusedVariables false
namespace Go.Proofs.YticaofendehebaaDoor.Pure
open Go.RowKit Go.Lib Go.Proofs.YticaofendehebaaDoor.X Go.Proofs.YticaofendehebaaDoor.G Go.Proofs.YticaofendehebaaDoorW.PrintWords Go.Proofs.YticaofendehebaaDoorW.PrintLast Go.Proofs.YticaofendehebaaDoorW.PrintMore
section
variable (s : ByteArray) (hs : s.size ≤ 140737488351232)
include hs
theorem has10_l0 (c : UInt8) : ∀ (d i k : Nat), i + d = (L s).length → d < k → emendationref10_has.l0 k s (c.toNat : Int) (i : Int) = some (((L s).drop i).contains c) := by
  have hsl : s.size = (L s).length := L_size s
  intro d
  induction d with
  | zero =>
    intro i k hi hk
    obtain ⟨k, rfl⟩ : ∃ m, k = m + 1 := ⟨k - 1, by omega⟩
    rw [emendationref10_has.l0, if_neg (by omega), List.drop_eq_nil_of_le (by omega)]
    rfl
  | succ d ih =>
    intro i k hi hk
    obtain ⟨k, rfl⟩ : ∃ m, k = m + 1 := ⟨k - 1, by omega⟩
    have q1 : (i : Int) < (s.size : Int) := by omega
    have hw1 : wrap64 ((i : Int) + 1) = ((i + 1 : Nat) : Int) := by rw [wrap_small (by omega) (by omega)]; omega
    have hx := ih (i + 1) k (by omega) (by omega)
    obtain ⟨b, t, hd⟩ : ∃ b t, (L s).drop i = b :: t := by
      rw [List.drop_eq_getElem_cons (by omega)]; exact ⟨_, _, rfl⟩
    rw [drop_tail hd] at hx
    rw [emendationref10_has.l0, if_pos q1, if_pos (Int.natCast_nonneg i), bt_d s i b t hd, hd, hw1, hx, List.contains_cons]
    by_cases g : b = c
    · subst g; simp
    · have g1 : ¬ ((b.toNat : Int) = (c.toNat : Int)) := fun e => g (toNat_inj (Int.ofNat.inj e))
      have g2 : (c == b) = false := beq_eq_false_iff_ne.2 (fun e => g e.symm)
      rw [if_neg g1, g2, Bool.false_or]
theorem has10_eq (c : UInt8) (k : Nat) (hk : s.size < k) : emendationref10_has.f k s (c.toNat : Int) = some ((L s).contains c) := by
  have hsl : s.size = (L s).length := L_size s
  have := has10_l0 s hs c (L s).length 0 k (by omega) (by omega)
  rw [List.drop_zero] at this
  exact this
theorem line10_eq (k : Nat) (hk : 2 * s.size + 40 < k) : emendationref10_line.f k s = some (lineV (L s)) := by
  have h10 := has10_eq s hs 10 k (by omega)
  have h13 := has10_eq s hs 13 k (by omega)
  change emendationref10_has.f k s 10 = _ at h10
  change emendationref10_has.f k s 13 = _ at h13
  unfold emendationref10_line.f lineV
  rw [ref_Check_eq s hs k hk, Option.bind_some, h10, Option.bind_some, h13, Option.bind_some]
  by_cases h : checkV (L s) = 0
  · rw [if_pos h, decide_eq_true h]
    cases (L s).contains 10 <;> cases (L s).contains 13 <;> rfl
  · rw [if_neg h, decide_eq_false h]; rfl
end
theorem gap10_eq (b : UInt8) : emendationref10_gap.f (b.toNat : Int) = some (gapB b) := by
  unfold emendationref10_gap.f
  have h := gapB_iff b
  by_cases h1 : (b.toNat : Int) = 9
  · rw [if_pos h1, h.2 (.inr h1)]
  · rw [if_neg h1]
    by_cases h2 : (b.toNat : Int) = 32
    · rw [h.2 (.inl h2)]; simp [h2]
    · have h3 : gapB b = false := by rw [Bool.eq_false_iff]; intro h4; rcases h.1 h4 with h5 | h5 <;> contradiction
      rw [h3]; simp [h2]
theorem trim_tight (b : UInt8) (m : List UInt8) (c : UInt8) : ∀ l : List UInt8, l = b :: m → l.getLast? = some c → (trim l == l) = (!gapB b && !gapB c) := by
  intro l hl hc
  have hsn : ∃ t, l = t ++ [c] := by
    obtain ⟨h, e⟩ := List.getLast?_eq_some_iff.1 hc
    exact ⟨h, e⟩
  obtain ⟨t, ht⟩ := hsn
  cases hb : gapB b with
  | true =>
    have : trim l ≠ l := by
      intro e
      have h1 : (trim l).length = l.length := by rw [e]
      have h2 : (trim l).length ≤ m.length := by
        unfold trim rdrop
        rw [hl, List.dropWhile_cons, if_pos hb, List.length_reverse]
        have a1 := (List.dropWhile_suffix gapB (l := (m.dropWhile gapB).reverse)).length_le
        have a2 := (List.dropWhile_suffix gapB (l := m)).length_le
        rw [List.length_reverse] at a1
        omega
      rw [h1, hl, List.length_cons] at h2
      omega
    rw [beq_eq_false_iff_ne.2 this]; rfl
  | false =>
    have hd : l.dropWhile gapB = l := by rw [hl, List.dropWhile_cons, if_neg (by rw [hb]; decide)]
    cases hcg : gapB c with
    | true =>
      have : trim l ≠ l := by
        intro e
        have h1 : (trim l).length = l.length := by rw [e]
        have h2 : (trim l).length ≤ t.length := by
          unfold trim
          rw [hd, ht, rdrop_snoc, if_pos hcg]
          unfold rdrop
          rw [List.length_reverse]
          have a1 := (List.dropWhile_suffix gapB (l := t.reverse)).length_le
          rw [List.length_reverse] at a1
          exact a1
        have h3 : l.length = t.length + 1 := by rw [ht, List.length_append]; rfl
        omega
      rw [beq_eq_false_iff_ne.2 this]; rfl
    | false =>
      have : trim l = l := by
        unfold trim
        rw [hd, ht, rdrop_snoc, if_neg (by rw [hcg]; decide)]
      rw [beq_iff_eq.2 this]; rfl
theorem tight_eq (s : ByteArray) (hs : s.size ≤ 140737488351232) : emendationref10_tight.f s = some (trim (L s) == L s) := by
  have hsl : s.size = (L s).length := L_size s
  unfold emendationref10_tight.f
  rw [L_toList]
  by_cases he : L s = []
  · rw [if_pos he, he]; rfl
  obtain ⟨b, m, hbm⟩ : ∃ b m, L s = b :: m := by
    cases h : L s with
    | nil => exact absurd h he
    | cons b m => exact ⟨b, m, rfl⟩
  have hpos : 0 < (L s).length := List.length_pos_iff.2 he
  have hb : bt s 0 = (b.toNat : Int) := bt_d s 0 b m (by rw [List.drop_zero]; exact hbm)
  have hw : wrap64 ((s.size : Int) - 1) = (((L s).length - 1 : Nat) : Int) := by rw [wrap_small (by omega) (by omega)]; omega
  have hlast : bt s (((L s).length - 1 : Nat) : Int) = (((L s)[(L s).length - 1]'(by omega)).toNat : Int) := bt_L s _ (by omega)
  have hc : (L s).getLast? = some ((L s)[(L s).length - 1]'(by omega)) := by rw [List.getLast?_eq_getElem?, List.getElem?_eq_getElem (by omega)]
  have q1 : (((L s).length - 1 : Nat) : Int) < (s.size : Int) := by omega
  rw [if_neg he, if_pos (by omega), hb, gap10_eq, Option.bind_some, trim_tight b m _ (L s) hbm hc]
  cases gapB b with
  | true => rw [if_pos rfl]; rfl
  | false => rw [if_neg (by decide), hw, if_pos (Int.natCast_nonneg _), if_pos q1, hlast, gap10_eq]; rfl
theorem Label10_eq (s : ByteArray) (hs : s.size ≤ 140737488351232) (k : Nat) (hk : 2 * s.size + 40 < k) : emendationref10_Label.f k s = some (labelV (L s)) := by
  have h91 := has10_eq s hs 91 k (by omega)
  have h93 := has10_eq s hs 93 k (by omega)
  have h92 := has10_eq s hs 92 k (by omega)
  change emendationref10_has.f k s 91 = _ at h91
  change emendationref10_has.f k s 93 = _ at h93
  change emendationref10_has.f k s 92 = _ at h92
  unfold emendationref10_Label.f labelV
  rw [L_toList]
  by_cases he : L s = []
  · rw [if_pos he, he]; rfl
  have h1 : (L s).isEmpty = false := by cases h : L s with | nil => exact absurd h he | cons => rfl
  rw [if_neg he, h1, line10_eq s hs k hk, Option.bind_some, tight_eq s hs, Option.bind_some, h91, Option.bind_some, h93, Option.bind_some, h92, Option.bind_some]
  cases lineV (L s) <;> cases (trim (L s) == L s) <;> cases (L s).contains 91 <;> cases (L s).contains 93 <;> cases (L s).contains 92 <;> rfl
end Go.Proofs.YticaofendehebaaDoor.Pure
/-! PKindR -/
set_option linter.unusedSimpArgs false
set_option linter.unusedVariables false
namespace Go.Proofs.YticaofendehebaaDoor.Pure
open Go.RowKit Go.Lib Go.Proofs.YticaofendehebaaDoor.X Go.Proofs.YticaofendehebaaDoor.G Go.Proofs.YticaofendehebaaDoorW.PrintWords Go.Proofs.YticaofendehebaaDoorW.PrintLast Go.Proofs.YticaofendehebaaDoorW.PrintMore
theorem occ_three (c c1 c2 : UInt8) (t : List UInt8) (l : List UInt8) (i : Nat) (h : l.drop i = c :: c1 :: c2 :: t) : Lib.occAt l sepL i = decide (c = 93 ∧ c1 = 58 ∧ c2 = 32) := by
  unfold Lib.occAt sepL
  rw [h]
  simp only [List.isPrefixOf_cons_cons, List.isPrefixOf_nil_left, Bool.and_true]
  rw [Bool.eq_iff_iff, Bool.and_eq_true, Bool.and_eq_true, beq_iff_eq, beq_iff_eq, beq_iff_eq, decide_eq_true_iff]
  exact ⟨fun ⟨a, b, c⟩ => ⟨a.symm, b.symm, c.symm⟩, fun ⟨a, b, c⟩ => ⟨a.symm, b.symm, c.symm⟩⟩
theorem label_cut (s : ByteArray) (i : Nat) (hi : 1 ≤ i) : L (s.extract 1 i) = ((L s).take i).drop 1 := by
  rw [L_extract, List.drop_take]
theorem ref_define_l0 (s : ByteArray) (hs : s.size ≤ 1000000) : ∀ (d i k : Nat), i + d = (L s).length → 1 ≤ i → d + 20 * s.size + 100 < k → (∀ j, 1 ≤ j → j < i → defAt (L s) j = false) →
    ∃ a b, emendationref11_define.l0 k s (i : Int) = some (a, b, (defV (L s)).2.2) ∧ L a = (defV (L s)).1 ∧ L b = (defV (L s)).2.1 := by
  have hsl : s.size = (L s).length := L_size s
  have base : ∀ (i k : Nat), (L s).length ≤ i + 3 → i ≤ (L s).length → 1 ≤ i → 0 < k → (∀ j, 1 ≤ j → j < i → defAt (L s) j = false) →
      ∃ a b, emendationref11_define.l0 k s (i : Int) = some (a, b, (defV (L s)).2.2) ∧ L a = (defV (L s)).1 ∧ L b = (defV (L s)).2.1 := by
    intro i k h1 h2 h3 h4 h5
    obtain ⟨k, rfl⟩ : ∃ m, k = m + 1 := ⟨k - 1, by omega⟩
    have hw : wrap64 ((i : Int) + 3) = ((i + 3 : Nat) : Int) := by rw [wrap_small (by omega) (by omega)]; omega
    have hd : defV (L s) = ([], [], false) := defV_none (fun j => by
      cases hd : defAt (L s) j with
      | false => rfl
      | true =>
        have hf := defAt_facts hd
        rw [h5 j hf.1 (by omega)] at hd
        cases hd)
    rw [emendationref11_define.l0, hw, if_neg (by omega), hd]
    exact ⟨_, _, rfl, rfl, rfl⟩
  intro d
  induction d with
  | zero => intro i k hi h1 hk hn; exact base i k (by omega) (by omega) h1 (by omega) hn
  | succ d ih =>
    intro i k hi h1 hk hn
    rcases Nat.lt_or_ge (i + 3) (L s).length with g | g
    · obtain ⟨k, rfl⟩ : ∃ m, k = m + 1 := ⟨k - 1, by omega⟩
      have hw1 : wrap64 ((i : Int) + 1) = ((i + 1 : Nat) : Int) := by rw [wrap_small (by omega) (by omega)]; omega
      have hw2 : wrap64 ((i : Int) + 2) = ((i + 2 : Nat) : Int) := by rw [wrap_small (by omega) (by omega)]; omega
      have hw3 : wrap64 ((i : Int) + 3) = ((i + 3 : Nat) : Int) := by rw [wrap_small (by omega) (by omega)]; omega
      obtain ⟨b0, t0, h0⟩ : ∃ b0 t0, L s = b0 :: t0 := by
        cases h : L s with
        | nil => rw [h] at g; cases g
        | cons b0 t0 => exact ⟨b0, t0, rfl⟩
      have hb0 : bt s 0 = (b0.toNat : Int) := bt_d s 0 b0 t0 (by rw [List.drop_zero]; exact h0)
      have h00 : (L s)[0]? = some b0 := by rw [h0]; rfl
      obtain ⟨c, c1, c2, t, hd⟩ : ∃ c c1 c2 t, (L s).drop i = c :: c1 :: c2 :: t := by
        rw [List.drop_eq_getElem_cons (by omega), List.drop_eq_getElem_cons (by omega), List.drop_eq_getElem_cons (by omega)]
        exact ⟨_, _, _, _, rfl⟩
      have d1 := drop_tail hd
      have d2 := drop_tail d1
      have e0 : bt s (i : Int) = (c.toNat : Int) := bt_d s i c _ hd
      have e1 : bt s ((i + 1 : Nat) : Int) = (c1.toNat : Int) := bt_d s (i + 1) c1 _ d1
      have e2 : bt s ((i + 2 : Nat) : Int) = (c2.toNat : Int) := bt_d s (i + 2) c2 _ d2
      have hx1 : L (s.extract 1 i) = ((L s).take i).drop 1 := label_cut s i h1
      have hx3 : L (s.extract (i + 3) s.size) = (L s).drop (i + 3) := L_from s (i + 3)
      have hz1 : (s.extract 1 i).size ≤ s.size := by rw [L_size, hx1, List.length_drop, List.length_take]; omega
      have hz3 : (s.extract (i + 3) s.size).size ≤ s.size := by rw [L_size, hx3, List.length_drop]; omega
      have hLab := Label10_eq (s.extract 1 i) (by omega) k (by omega)
      have hDes := ref_dest_eq (s.extract (i + 3) s.size) (by omega) k (by omega)
      rw [hx1] at hLab
      rw [hx3] at hDes
      have hocc := occ_three c c1 c2 t (L s) i hd
      have q0 : (0 : Int) < (s.size : Int) := by omega
      have qi : (i : Int) < (s.size : Int) := by omega
      have q1 : ((i + 1 : Nat) : Int) < (s.size : Int) := by omega
      have q2 : ((i + 2 : Nat) : Int) < (s.size : Int) := by omega
      have q3 : ((i + 3 : Nat) : Int) < (s.size : Int) := by omega
      have q3' : ((i + 3 : Nat) : Int) ≤ (s.size : Int) := by omega
      have qi' : (i : Int) ≤ (s.size : Int) := by omega
      have qi1 : (1 : Int) ≤ (i : Int) := by omega
      have k91 : ((b0.toNat : Int) = 91) ↔ b0 = 91 := bN b0 91
      have k93 : ((c.toNat : Int) = 93) ↔ c = 93 := bN c 93
      have k58 : ((c1.toNat : Int) = 58) ↔ c1 = 58 := bN c1 58
      have k32 : ((c2.toNat : Int) = 32) ↔ c2 = 32 := bN c2 32
      rw [emendationref11_define.l0, hw1, hw2, hw3, hb0, e0, e1, e2, if_pos q3, if_pos q0, if_pos (Int.natCast_nonneg i), if_pos qi, if_pos (Int.natCast_nonneg (i + 1)), if_pos q1, if_pos (Int.natCast_nonneg (i + 2)), if_pos q2, if_pos qi1, if_pos qi', Int.toNat_natCast, hLab, Option.bind_some, if_pos (Int.natCast_nonneg (i + 3)), if_pos q3', Int.toNat_natCast, hDes, Option.bind_some]
      by_cases hd2 : defAt (L s) i = true
      · obtain ⟨f1, f2, f3, f4, f5, f6⟩ := defAt_facts hd2
        rw [h00] at f3
        rw [hocc, decide_eq_true_iff] at f4
        rw [if_pos (k91.2 (Option.some.inj f3)), if_pos (k93.2 f4.1), if_pos (k58.2 f4.2.1), if_pos (k32.2 f4.2.2), if_pos f5, if_pos f6, defV_hit hd2]
        exact ⟨_, _, rfl, hx1, hx3⟩
      · have next := ih (i + 1) k (by omega) (by omega) (by omega) (fun j hj hj2 => by
          rcases Nat.lt_or_ge j i with h | h
          · exact hn j hj h
          · obtain rfl : j = i := by omega
            exact Bool.eq_false_iff.2 hd2)
        by_cases g1 : b0 = 91
        · rw [if_pos (k91.2 g1)]
          by_cases g2 : c = 93
          · rw [if_pos (k93.2 g2)]
            by_cases g3 : c1 = 58
            · rw [if_pos (k58.2 g3)]
              by_cases g4 : c2 = 32
              · rw [if_pos (k32.2 g4)]
                by_cases g5 : labelV (((L s).take i).drop 1) = true
                · rw [if_pos g5]
                  by_cases g6 : destL ((L s).drop (i + 3)) = true
                  · exfalso
                    apply hd2
                    unfold defAt
                    rw [decide_eq_true h1, decide_eq_true g, h00, g1, hocc, decide_eq_true (show c = 93 ∧ c1 = 58 ∧ c2 = 32 from ⟨g2, g3, g4⟩), g5, g6]
                    rfl
                  · rw [if_neg g6]; exact next
                · rw [if_neg g5]; exact next
              · rw [if_neg (fun q => g4 (k32.1 q))]; exact next
            · rw [if_neg (fun q => g3 (k58.1 q))]; exact next
          · rw [if_neg (fun q => g2 (k93.1 q))]; exact next
        · rw [if_neg (fun q => g1 (k91.1 q))]; exact next
    · exact base i k g (by omega) h1 (by omega) hn
theorem ref_define_eq (s : ByteArray) (hs : s.size ≤ 1000000) (k : Nat) (hk : 21 * s.size + 110 < k) :
    ∃ a b, emendationref11_define.f k s = some (a, b, (defV (L s)).2.2) ∧ L a = (defV (L s)).1 ∧ L b = (defV (L s)).2.1 := by
  have hsl : s.size = (L s).length := L_size s
  rcases Nat.eq_zero_or_pos (L s).length with h | h
  · obtain ⟨k, rfl⟩ : ∃ m, k = m + 1 := ⟨k - 1, by omega⟩
    have h0 : L s = [] := List.eq_nil_of_length_eq_zero h
    have hd : defV (L s) = ([], [], false) := by rw [h0]; exact defV_head (by decide)
    unfold emendationref11_define.f
    rw [emendationref11_define.l0, show wrap64 (1 + 3) = 4 from by rw [wrap_small (by decide) (by decide)]; rfl, if_neg (by omega), hd]
    exact ⟨_, _, rfl, rfl, rfl⟩
  · exact ref_define_l0 s hs ((L s).length - 1) 1 k (by omega) (Nat.le_refl _) (by omega) (fun j h1 h2 => by omega)
theorem ref_Of_eq (s : ByteArray) (hs : s.size ≤ 1000000) (k : Nat) (hk : 21 * s.size + 200 < k) : emendationref11_Of.f k s = some (kindV (L s)) := by
  have hsl : s.size = (L s).length := L_size s
  have hr35 := run_le (L s) 35
  have hr96 := run_le (L s) 96
  unfold emendationref11_Of.f kindV
  rw [ref_Trim_eq s k (by omega) (by omega), Option.bind_some, L_toList, L_mk]
  by_cases h1 : trim (L s) = []
  · rw [if_pos h1, if_pos h1]
  have hpos : 0 < (L s).length := List.length_pos_iff.2 (fun e => h1 (by rw [e]; rfl))
  obtain ⟨b, t, hbt⟩ : ∃ b t, L s = b :: t := by
    cases h : L s with
    | nil => rw [h] at hpos; cases hpos
    | cons b t => exact ⟨b, t, rfl⟩
  rw [if_neg h1, if_neg h1, ref_Run_eq s 35 k (by omega) (by omega), Option.bind_some]
  have J3 : ∀ k, 21 * s.size + 120 < k → emendationref11_Of.j3 (k + 1) s (decide (L s = [45] ∨ (L s).take 2 = [45, 32])) = some (if L s = [45] ∨ (L s).take 2 = [45, 32] then 6 else if (defV (L s)).2.2 = true then 7 else 8) := by
    intro k hk
    rw [emendationref11_Of.j3]
    by_cases g : L s = [45] ∨ (L s).take 2 = [45, 32]
    · rw [decide_eq_true g, if_pos rfl, if_pos g]
    · rw [decide_eq_false g, if_neg (by decide), if_neg g]
      obtain ⟨x, y, hx, _⟩ := ref_define_eq s hs k (by omega)
      rw [hx, Option.bind_some]
      cases (defV (L s)).2.2 <;> rfl
  have J2 : ∀ k, 21 * s.size + 130 < k → emendationref11_Of.j2 (k + 1) s (decide (0 < openN (L s))) = some (if 0 < openN (L s) then 4
      else if (L s)[0]? = some 62 then 5 else if L s = [45] ∨ (L s).take 2 = [45, 32] then 6 else if (defV (L s)).2.2 = true then 7 else 8) := by
    intro k hk
    rw [emendationref11_Of.j2]
    by_cases g : 0 < openN (L s)
    · rw [decide_eq_true g, if_pos rfl, if_pos g]
    rw [decide_eq_false g, if_neg (by decide), if_neg g, if_pos (by omega)]
    have hb : bt s 0 = (b.toNat : Int) := bt_d s 0 b t (by rw [List.drop_zero]; exact hbt)
    have h0 : (L s)[0]? = some b := by rw [hbt]; rfl
    have h62 : ((b.toNat : Int) = 62) ↔ b = 62 := bN b 62
    rw [hb, h0]
    by_cases h5 : b = 62
    · rw [if_pos (h62.2 h5), if_pos (by rw [h5])]
    rw [if_neg (fun q => h5 (h62.1 q)), if_neg (fun q => h5 (Option.some.inj q)), L_toList]
    obtain ⟨k, rfl⟩ : ∃ m, k = m + 1 := ⟨k - 1, by omega⟩
    have j3 := J3 k (by omega)
    by_cases h6 : L s = [45]
    · rw [if_pos h6]
      rw [decide_eq_true (.inl h6)] at j3
      exact j3
    · rw [if_neg h6]
      have e : ((L s).take 2 == [45, 32]) = decide (L s = [45] ∨ (L s).take 2 = [45, 32]) := by
        rw [Bool.eq_iff_iff, beq_iff_eq, decide_eq_true_iff]
        exact ⟨.inr, fun h => h.resolve_left h6⟩
      by_cases h7 : (s.size : Int) > 1
      · rw [if_pos h7, if_pos (by decide), if_pos (by omega), L_toList, L_upto, e]
        exact j3
      · rw [if_neg h7]
        have e2 : ¬ ((L s).take 2 = [45, 32]) := fun q => by
          have := congrArg List.length q
          rw [List.length_take] at this
          simp at this
          omega
        rw [decide_eq_false (fun q => q.elim h6 e2)] at j3
        exact j3
  have J1 : ∀ k, 21 * s.size + 140 < k → emendationref11_Of.j1 (k + 1) s (decide (3 ≤ (L s).length ∧ run (L s) 45 = (L s).length)) = some (if 3 ≤ (L s).length ∧ run (L s) 45 = (L s).length then 3 else if 0 < openN (L s) then 4
      else if (L s)[0]? = some 62 then 5 else if L s = [45] ∨ (L s).take 2 = [45, 32] then 6 else if (defV (L s)).2.2 = true then 7 else 8) := by
    intro k hk
    rw [emendationref11_Of.j1]
    by_cases g : 3 ≤ (L s).length ∧ run (L s) 45 = (L s).length
    · rw [decide_eq_true g, if_pos rfl, if_pos g]
    rw [decide_eq_false g, if_neg (by decide), if_neg g, ref_Run_eq s 96 k (by omega) (by omega), Option.bind_some]
    obtain ⟨k, rfl⟩ : ∃ m, k = m + 1 := ⟨k - 1, by omega⟩
    have j2 := J2 k (by omega)
    by_cases h3 : ((run (L s) 96 : Nat) : Int) ≥ 3
    · have hz : (s.extract (run (L s) 96) s.size).size ≤ s.size := by rw [L_size, L_from, List.length_drop]; omega
      have e : ((longest ((L s).drop (run (L s) 96)) 96 : Int) == 0) = decide (0 < openN (L s)) := by
        have hlz : longest ((L s).drop (run (L s) 96)) 96 = 0 ↔ ((L s).drop (run (L s) 96)).contains 96 = false := longest_zero 96 _
        rw [Bool.eq_iff_iff, beq_iff_eq, decide_eq_true_iff]
        unfold openN
        constructor
        · intro h
          rw [if_pos ⟨by omega, hlz.1 (by omega)⟩]
          omega
        · intro h
          by_cases hc : 3 ≤ run (L s) 96 ∧ ((L s).drop (run (L s) 96)).contains 96 = false
          · have := hlz.2 hc.2; omega
          · rw [if_neg hc] at h; omega
      rw [if_pos h3, if_pos (Int.natCast_nonneg _), if_pos (by omega), Int.toNat_natCast, ref_Longest_eq _ 96 _ (by omega) (by omega), Option.bind_some, L_from, e]
      exact j2
    · rw [if_neg h3]
      have : ¬ 0 < openN (L s) := by
        unfold openN
        rw [if_neg (fun q => h3 (by omega))]
        omega
      rw [decide_eq_false this] at j2
      exact j2
  have J0 : ∀ k, 21 * s.size + 150 < k → emendationref11_Of.j0 (k + 1) s (decide (0 < headN (L s))) = some (if 0 < headN (L s) then 2 else if 3 ≤ (L s).length ∧ run (L s) 45 = (L s).length then 3 else if 0 < openN (L s) then 4
      else if (L s)[0]? = some 62 then 5 else if L s = [45] ∨ (L s).take 2 = [45, 32] then 6 else if (defV (L s)).2.2 = true then 7 else 8) := by
    intro k hk
    rw [emendationref11_Of.j0]
    by_cases g : 0 < headN (L s)
    · rw [decide_eq_true g, if_pos rfl, if_pos g]
    rw [decide_eq_false g, if_neg (by decide), if_neg g, ref_Run_eq s 45 k (by omega) (by omega), Option.bind_some]
    obtain ⟨k, rfl⟩ : ∃ m, k = m + 1 := ⟨k - 1, by omega⟩
    have j1 := J1 k (by omega)
    by_cases h3 : ((run (L s) 45 : Nat) : Int) ≥ 3
    · have e : (((run (L s) 45 : Nat) : Int) == (s.size : Int)) = decide (3 ≤ (L s).length ∧ run (L s) 45 = (L s).length) := by
        rw [Bool.eq_iff_iff, beq_iff_eq, decide_eq_true_iff]
        omega
      rw [if_pos h3, e]
      exact j1
    · rw [if_neg h3]
      rw [decide_eq_false (fun q => h3 (by omega))] at j1
      exact j1
  obtain ⟨k, rfl⟩ : ∃ m, k = m + 1 := ⟨k - 1, by omega⟩
  have j0 := J0 k (by omega)
  have hh : headN (L s) = if run (L s) 35 ≤ 6 ∧ (run (L s) 35 = (L s).length ∨ (L s)[run (L s) 35]? = some 32) then run (L s) 35 else 0 := rfl
  by_cases h35 : ((run (L s) 35 : Nat) : Int) ≥ 1
  · rw [if_pos h35]
    by_cases h6 : ((run (L s) 35 : Nat) : Int) ≤ 6
    · rw [if_pos h6]
      by_cases hl : (s.size : Int) = ((run (L s) 35 : Nat) : Int)
      · rw [if_pos hl]
        have hn : headN (L s) = run (L s) 35 := by rw [hh, if_pos ⟨by omega, .inl (by omega)⟩]
        rw [hn, decide_eq_true (show 0 < run (L s) 35 by omega)] at j0
        rw [hn]
        exact j0
      · obtain ⟨x, hx1, hx2⟩ := run_bt s (by omega)
        have e : ((x.toNat : Int) == 32) = decide (0 < headN (L s)) := by
          rw [Bool.eq_iff_iff, beq_iff_eq, decide_eq_true_iff, hh, hx1, b32]
          constructor
          · intro h; rw [if_pos ⟨by omega, .inr (by rw [h])⟩]; omega
          · intro h
            by_cases hc : run (L s) 35 ≤ 6 ∧ (run (L s) 35 = (L s).length ∨ some x = some 32)
            · rcases hc.2 with q | q
              · omega
              · exact Option.some.inj q
            · rw [if_neg hc] at h; omega
        rw [if_neg hl, if_pos (Int.natCast_nonneg _), if_pos (by omega), hx2, e]
        exact j0
    · rw [if_neg h6]
      have : ¬ 0 < headN (L s) := by rw [hh, if_neg (fun q => h6 (by omega))]; omega
      rw [decide_eq_false this] at j0
      exact j0
  · rw [if_neg h35]
    have : ¬ 0 < headN (L s) := by
      rw [hh]
      split <;> omega
    rw [decide_eq_false this] at j0
    exact j0
end Go.Proofs.YticaofendehebaaDoor.Pure
/-! PureKindTells -/
set_option linter.unusedSimpArgs false
set_option linter.unusedVariables false
namespace Go.Proofs.YticaofendehebaaDoor.Pure
open Go.RowKit Go.Lib Go.Proofs.YticaofendehebaaDoor.X Go.Proofs.YticaofendehebaaDoor.G Go.Proofs.YticaofendehebaaDoorW.PrintWords Go.Proofs.YticaofendehebaaDoorW.PrintLast Go.Proofs.YticaofendehebaaDoorW.PrintMore
theorem kind_two {l : List UInt8} (h : kindV l = 2) : headN l = run l 35 := by
  have h0 : 0 < headN l := by
    by_cases g : 0 < headN l
    · exact g
    · exfalso
      unfold kindV at h
      rw [if_neg g] at h
      revert h
      repeat' split
      all_goals decide
  unfold headN at h0 ⊢
  split
  · rfl
  · rename_i q; rw [if_neg q] at h0; cases h0
theorem kind_four {l : List UInt8} (h : kindV l = 4) : openN l = run l 96 := by
  have h0 : 0 < openN l := by
    by_cases g : 0 < openN l
    · exact g
    · exfalso
      unfold kindV at h
      rw [if_neg g] at h
      revert h
      repeat' split
      all_goals decide
  unfold openN at h0 ⊢
  split
  · rfl
  · rename_i q; rw [if_neg q] at h0; cases h0
theorem kind_six {l : List UInt8} (h : kindV l = 6) : l = [45] ∨ ∃ t, l = 45 :: 32 :: t := by
  have h0 : l = [45] ∨ l.take 2 = [45, 32] := by
    by_cases g : l = [45] ∨ l.take 2 = [45, 32]
    · exact g
    · exfalso
      unfold kindV at h
      rw [if_neg g] at h
      revert h
      repeat' split
      all_goals decide
  rcases h0 with h0 | h0
  · exact .inl h0
  · right
    match l, h0 with
    | b :: c :: t, h0 =>
      simp at h0
      exact ⟨t, by rw [h0.1, h0.2]⟩
section
variable (s : ByteArray) (hs : s.size ≤ 1000000) (k : Nat) (hk : 21 * s.size + 200 < k)
include hs hk
theorem ref_Head_eq : emendationref11_Head.f k s = some (if kindV (L s) = 2 then ((headN (L s) : Int), ⟨(trim ((L s).drop (headN (L s)))).toArray⟩) else (0, ⟨#[]⟩)) := by
  have hsl : s.size = (L s).length := L_size s
  have hl := run_le (L s) 35
  unfold emendationref11_Head.f
  rw [ref_Of_eq s hs k hk, Option.bind_some]
  by_cases h : kindV (L s) = 2
  · have hz : (s.extract (run (L s) 35) s.size).size ≤ s.size := by rw [L_size, L_from, List.length_drop]; omega
    rw [if_pos h, if_pos h, kind_two h, ref_Run_eq s 35 k (by omega) (by omega), Option.bind_some, if_pos (Int.natCast_nonneg _), if_pos (by omega), Int.toNat_natCast, ref_Trim_eq _ k (by omega) (by omega), Option.bind_some, L_from]
  · rw [if_neg h, if_neg h]
theorem ref_Open_eq : emendationref11_Open.f k s = some (if kindV (L s) = 4 then ((openN (L s) : Int), ⟨(trim ((L s).drop (openN (L s)))).toArray⟩) else (0, ⟨#[]⟩)) := by
  have hsl : s.size = (L s).length := L_size s
  have hl := run_le (L s) 96
  unfold emendationref11_Open.f
  rw [ref_Of_eq s hs k hk, Option.bind_some]
  by_cases h : kindV (L s) = 4
  · have hz : (s.extract (run (L s) 96) s.size).size ≤ s.size := by rw [L_size, L_from, List.length_drop]; omega
    rw [if_pos h, if_pos h, kind_four h, ref_Run_eq s 96 k (by omega) (by omega), Option.bind_some, if_pos (Int.natCast_nonneg _), if_pos (by omega), Int.toNat_natCast, ref_Trim_eq _ k (by omega) (by omega), Option.bind_some, L_from]
  · rw [if_neg h, if_neg h]
theorem ref_Inner_eq : emendationref11_Inner.f k s = some (if (L s).take 2 = [32, 32] then (⟨((L s).drop 2).toArray⟩, true) else (⟨#[]⟩, trim (L s) == [])) := by
  have hsl : s.size = (L s).length := L_size s
  unfold emendationref11_Inner.f
  have hT := ref_Trim_eq s k (by omega) (by omega)
  by_cases h1 : (s.size : Int) > 1
  · rw [if_pos h1, if_pos (by decide), if_pos (by omega), L_toList, L_upto, hT, Option.bind_some, L_toList, L_mk (trim (L s))]
    by_cases h2 : (L s).take 2 = [32, 32]
    · rw [if_pos h2, if_pos h2]
      have : (⟨((L s).drop 2).toArray⟩ : ByteArray) = s.extract 2 s.size := L_ext (by rw [L_mk, L_from])
      rw [this]
    · rw [if_neg h2, if_neg h2]
  · have e2 : ¬ ((L s).take 2 = [32, 32]) := fun q => by
      have := congrArg List.length q
      rw [List.length_take] at this
      simp at this
      omega
    rw [if_neg h1, if_neg e2, hT, Option.bind_some, L_toList, L_mk (trim (L s))]
theorem ref_Closes_eq (n : Int) : emendationref11_Closes.f k s n = some (closesV (L s) n) := by
  have hsl : s.size = (L s).length := L_size s
  unfold emendationref11_Closes.f closesV
  by_cases h0 : L s = []
  · have : (L s).length = 0 := by rw [h0]; rfl
    rw [if_neg (by omega), h0]; rfl
  have h1 : (L s).isEmpty = false := by cases h : L s with | nil => exact absurd h h0 | cons => rfl
  have hp : 0 < (L s).length := List.length_pos_iff.2 h0
  rw [if_pos (by omega), h1, hsl]
  by_cases h : ((L s).length : Int) ≥ n
  · rw [if_pos h, decide_eq_true h, ref_Run_eq s 96 k (by omega) (by omega), Option.bind_some]
    have : (((run (L s) 96 : Nat) : Int) == ((L s).length : Int)) = decide (run (L s) 96 = (L s).length) := by
      rw [Bool.eq_iff_iff, beq_iff_eq, decide_eq_true_iff]; omega
    rw [this]
    rfl
  · rw [if_neg h, decide_eq_false h]; rfl
theorem ref_Unquote_eq : ∃ r, emendationref11_Unquote.f k s = some r ∧ L r = if kindV (L s) = 5 then bare (L s) else [] := by
  have hsl : s.size = (L s).length := L_size s
  unfold emendationref11_Unquote.f
  rw [ref_Of_eq s hs k hk, Option.bind_some]
  by_cases h : kindV (L s) = 5
  · have hp := List.length_pos_iff.2 (kind_some (l := L s) (by rw [h]; decide))
    rw [if_pos h, if_pos h]
    obtain ⟨b, t, hbt⟩ : ∃ b t, L s = b :: t := by
      cases hh : L s with
      | nil => rw [hh] at hp; cases hp
      | cons b t => exact ⟨b, t, rfl⟩
    have d1 : (L s).drop 1 = t := by rw [hbt]; rfl
    by_cases h1 : (s.size : Int) > 1
    · obtain ⟨c, t2, ht⟩ : ∃ c t2, t = c :: t2 := by
        cases t with
        | nil => rw [hsl, hbt, List.length_singleton] at h1; exact absurd h1 (by decide)
        | cons c t2 => exact ⟨c, t2, rfl⟩
      have hb : bt s 1 = (c.toNat : Int) := bt_d s 1 c t2 (by rw [d1, ht])
      rw [if_pos h1, if_pos (by omega), hb]
      by_cases g : c = 32
      · rw [if_pos ((b32 c).2 g), if_pos (by omega)]
        refine ⟨_, rfl, ?_⟩
        rw [L_from, hbt, ht, g, bare_space]
        rfl
      · rw [if_neg (fun q => g ((b32 c).1 q)), if_pos (by omega)]
        refine ⟨_, rfl, ?_⟩
        rw [L_from, hbt, bare_other b t (by rw [ht]; intro q; exact g (Option.some.inj q))]
        rfl
    · rw [if_neg h1, if_pos (by omega)]
      refine ⟨_, rfl, ?_⟩
      have ht : t = [] := by
        cases t with
        | nil => rfl
        | cons c t2 => exfalso; rw [hsl, hbt, List.length_cons, List.length_cons] at h1; omega
      rw [L_from, hbt, bare_other b t (by rw [ht]; intro q; cases q)]
      rfl
  · rw [if_neg h, if_neg h]
    exact ⟨_, rfl, rfl⟩
theorem ref_Unitem_eq : ∃ r, emendationref11_Unitem.f k s = some r ∧ L r = if kindV (L s) = 6 then bare (L s) else [] := by
  have hsl : s.size = (L s).length := L_size s
  unfold emendationref11_Unitem.f
  rw [ref_Of_eq s hs k hk, Option.bind_some]
  by_cases h : kindV (L s) = 6
  · rw [if_pos h, if_pos h]
    rcases kind_six h with g | ⟨t, g⟩
    · have : (L s).length = 1 := by rw [g]; rfl
      rw [if_pos (by omega), g]
      exact ⟨_, rfl, rfl⟩
    · have : (L s).length = t.length + 2 := by rw [g]; rfl
      rw [if_neg (by omega), if_pos (by omega)]
      refine ⟨_, rfl, ?_⟩
      rw [L_from, g, bare_space]
      rfl
  · rw [if_neg h, if_neg h]
    exact ⟨_, rfl, rfl⟩
end
theorem texts_same (k : Nat) (hk : 5 < k) (l : List ByteArray) (hl : l = [] ∨ ∃ b, l = [b]) : emendationref10_texts.f k l l = some true := by
  obtain ⟨k, rfl⟩ : ∃ m, k = m + 2 := ⟨k - 2, by omega⟩
  unfold emendationref10_texts.f
  rw [if_pos rfl]
  rcases hl with rfl | ⟨b, rfl⟩
  · rw [emendationref10_texts.l0, if_neg (by decide)]
  · have q1 : (0 : Int) < (([b] : List ByteArray).length : Int) := by rw [List.length_singleton]; decide
    have q2 : ¬ (1 : Int) < (([b] : List ByteArray).length : Int) := by rw [List.length_singleton]; decide
    rw [emendationref10_texts.l0, if_pos q1, if_pos (by decide), if_pos q1, if_pos q1, if_pos rfl, show wrap64 (0 + 1) = 1 from by rw [wrap_small (by decide) (by decide)]; rfl, emendationref10_texts.l0, if_neg q2]
theorem same_self (k : Nat) (hk : 10 < k) (m : Int) (a : ByteArray) (l : List ByteArray) (hl : l = [] ∨ ∃ b, l = [b]) :
    emendationref10_Same.f k [(⟨m, 0, a, l, [], []⟩ : S32)] [(⟨m, 0, a, l, [], []⟩ : S32)] = some true := by
  obtain ⟨k, rfl⟩ : ∃ n, k = n + 4 := ⟨k - 4, by omega⟩
  have hT := texts_same (k + 2) (by omega) l hl
  have hS : emendationref07_Same.f [] [] = some true := rfl
  have hK : emendationref10_Same.f (k + 2) [] [] = some true := by
    rw [emendationref10_Same.f, if_pos rfl, emendationref10_Same.l0, if_neg (by decide)]
  have e1 : rd_T32 [(⟨m, 0, a, l, [], []⟩ : S32)] 0 = ⟨m, 0, a, l, [], []⟩ := rfl
  have q1 : (0 : Int) < (([(⟨m, 0, a, l, [], []⟩ : S32)]).length : Int) := by rw [List.length_singleton]; decide
  have q2 : ¬ (1 : Int) < (([(⟨m, 0, a, l, [], []⟩ : S32)]).length : Int) := by rw [List.length_singleton]; decide
  rw [emendationref10_Same.f, if_pos rfl, emendationref10_Same.l0]
  simp only [e1]
  rw [if_pos q1, if_pos (by decide), if_pos q1, if_pos q1, if_pos trivial, if_pos trivial, if_pos trivial, hT, Option.bind_some, if_pos rfl, hS, Option.bind_some, if_pos rfl, hK, Option.bind_some, if_pos rfl, show wrap64 (0 + 1) = 1 from by rw [wrap_small (by decide) (by decide)]; rfl, emendationref10_Same.l0, if_neg q2]
theorem Define_both (s : ByteArray) (hs : s.size ≤ 1000000) (k : Nat) (hk : 21 * s.size + 200 < k) :
    ∃ m a l, kind_Define.f k s = some (m, 0, a, l, [], []) ∧ emendationref11_Define.f k s = some (m, 0, a, l, [], []) ∧ (l = [] ∨ ∃ b, l = [b]) := by
  obtain ⟨a, b, h1, h2⟩ := define_eq s k hs (by omega)
  obtain ⟨c, d, h3, h4, h5⟩ := ref_define_eq s hs k (by omega)
  unfold kind_Define.f emendationref11_Define.f
  rw [Of_eq s k hs (by omega), ref_Of_eq s hs k hk, Option.bind_some, h1, h3, Option.bind_some, Option.bind_some, Option.bind_some]
  by_cases h : kindV (L s) = 7
  · have hd : (defV (L s)).2.2 = true := by
      cases hx : (defV (L s)).2.2 with
      | true => rfl
      | false =>
        exfalso
        unfold kindV at h
        rw [hx, if_neg (show ¬ (false = true) by decide)] at h
        revert h
        repeat' split
        all_goals decide
    obtain ⟨e1, e2⟩ := h2 hd
    obtain rfl : a = c := L_ext (e1.trans h4.symm)
    obtain rfl : b = d := L_ext (e2.trans h5.symm)
    rw [if_pos h, if_pos h, hd]
    exact ⟨8, a, [b], rfl, rfl, .inr ⟨b, rfl⟩⟩
  · rw [if_neg h, if_neg h]
    exact ⟨0, _, [], rfl, rfl, .inl rfl⟩
theorem KindTells (a0 : ByteArray) (a1 : Int) (h0 : a0.size ≤ 140737488351232) (h1 : (Lit.int .i64 a1).wf = true) : ∃ k, emendationlaw11_KindTells.f k a0 a1 = some true := by
  obtain ⟨K, hK⟩ : ∃ K, K = 30000 := ⟨_, rfl⟩
  refine ⟨(K + 1) + 1, ?_⟩
  unfold emendationlaw11_KindTells.f
  rw [awake11 _ (by omega), Option.bind_some, if_pos rfl, emendationlaw11_KindTells.j0]
  by_cases h : (a0.size : Int) > 1000
  · rw [decide_eq_true h, if_pos rfl, awake11 _ (by omega)]; rfl
  · have hs : a0.size ≤ 1000000 := by omega
    have hk : 21 * a0.size + 200 < K := by omega
    have hk1 : 21 * a0.size + 200 < K + 1 := by omega
    obtain ⟨u, hu, eu⟩ := ref_Unquote_eq a0 hs K hk
    obtain ⟨v, hv, ev⟩ := ref_Unitem_eq a0 hs K hk
    obtain ⟨m, a, l, hd, hd2, hl⟩ := Define_both a0 hs K hk
    rw [decide_eq_false h, if_neg (by decide), Head_eq a0 _ hs (by omega), ref_Head_eq a0 hs _ hk1, Open_eq a0 _ hs (by omega), ref_Open_eq a0 hs _ hk1, Inner_eq a0 hs, ref_Inner_eq a0 hs _ hk1, Of_eq a0 _ hs (by omega), ref_Of_eq a0 hs _ hk1]
    simp only [Option.bind_some]
    rw [if_pos trivial, if_pos trivial, if_pos trivial, if_pos trivial, if_pos trivial, if_pos trivial, bne_self_eq_false, emendationlaw11_KindTells.j1, if_neg (by decide), Closes_eq a0 a1 K hs (by omega), Option.bind_some, ref_Closes_eq a0 hs K hk a1, Option.bind_some, beq_self_eq_true, if_pos rfl,
      Unquote_eq a0 K hs (by omega), Option.bind_some, hu, Option.bind_some]
    have q1 : (if kindV (L a0) = 5 then (⟨(bare (L a0)).toArray⟩ : ByteArray) else ⟨#[]⟩).toList = u.toList := by
      rw [L_toList, L_toList, eu]
      split
      · rw [L_mk]
      · rfl
    have q2 : (if kindV (L a0) = 6 then (⟨(bare (L a0)).toArray⟩ : ByteArray) else ⟨#[]⟩).toList = v.toList := by
      rw [L_toList, L_toList, ev]
      split
      · rw [L_mk]
      · rfl
    rw [if_pos q1, Unitem_eq a0 K hs (by omega), Option.bind_some, hv, Option.bind_some, if_pos q2, hd, Option.bind_some, hd2, Option.bind_some, same_self K (by omega) m a l hl]
    rfl
end Go.Proofs.YticaofendehebaaDoor.Pure
