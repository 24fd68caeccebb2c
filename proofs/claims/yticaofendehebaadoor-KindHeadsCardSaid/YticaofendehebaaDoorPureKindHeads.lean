/- The law KindHeads, as a statement of bytes. -/
import Derived.Test.YticaofendehebaaDoorPKindD
import Derived.Test.YticaofendehebaaDoorX17
set_option linter.unusedSimpArgs false
set_option linter.unusedVariables false
namespace Go.Proofs.YticaofendehebaaDoor.Pure
open Go.RowKit Go.Lib Go.Proofs.YticaofendehebaaDoor.X Go.Proofs.YticaofendehebaaDoor.G Go.Proofs.YticaofendehebaaDoorW.PrintWords Go.Proofs.YticaofendehebaaDoorW.PrintLast Go.Proofs.YticaofendehebaaDoorW.PrintMore
theorem heads_j7 (a b : ByteArray) (ha : a.size ≤ 1000) (hb : b.size ≤ 1000) (k : Nat) (hk : 40000 < k) : emendationlaw11_KindHeads.j7 k a b false = some true := by
  obtain ⟨k, rfl⟩ : ∃ m, k = m + 1 := ⟨k - 1, by omega⟩
  have z1 : ((⟨#[91]⟩ : ByteArray) ++ a).size = 1 + a.size := by rw [size_append]; rfl
  have z2 : (((⟨#[91]⟩ : ByteArray) ++ a) ++ (⟨#[93, 58, 32]⟩ : ByteArray)).size = 1 + a.size + 3 := by rw [size_append, z1]; rfl
  have z3 : ((((⟨#[91]⟩ : ByteArray) ++ a) ++ (⟨#[93, 58, 32]⟩ : ByteArray)) ++ b).size = 1 + a.size + 3 + b.size := by rw [size_append, z2]
  have hl : L ((((⟨#[91]⟩ : ByteArray) ++ a) ++ (⟨#[93, 58, 32]⟩ : ByteArray)) ++ b) = defLine (L a) (L b) := by
    rw [L_append, L_append, L_append]
    unfold defLine
    rw [show L (⟨#[91]⟩ : ByteArray) = [91] from rfl, show L (⟨#[93, 58, 32]⟩ : ByteArray) = [93, 58, 32] from rfl]
    simp
  obtain ⟨r, h1, h2, h3⟩ := Define_line _ (L a) (L b) hl (by rw [z3]; omega) k (by rw [z3]; omega)
  have hR := Right_def a b (by omega) (by omega) k (by omega)
  rw [emendationlaw11_KindHeads.j7, if_neg (by decide), if_pos (by omega), if_pos (by rw [z1]; omega), if_pos (by rw [z2]; omega), h1, Option.bind_some, hR, Option.bind_some, h2, beq_self_eq_true, if_pos rfl]
  cases h : (labelV (L a) && destL (L b)) with
  | false => rfl
  | true =>
    obtain ⟨e1, y, e2, e3⟩ := h3 h
    rw [if_pos rfl, if_pos (by rw [L_toList, L_toList, e1]), e2, if_pos (by rw [List.length_singleton]; rfl), if_pos (by rw [List.length_singleton]; decide)]
    show some (y.toList == b.toList) = some true
    rw [L_toList, L_toList, e3, beq_self_eq_true]
theorem gap_cases (b : UInt8) : ((b.toNat : Int) = 32 ∨ (b.toNat : Int) = 9) ↔ gapB b = true := (gapB_iff b).symm
theorem heads_l2 (a b : ByteArray) (x11 : Int) (x12 : ByteArray) (K : Nat) (T : List UInt8) (J : ∀ k s, K ≤ k → L s = T → emendationlaw11_KindHeads.j6 k s a b x11 x12 = some true) :
    ∀ (n k : Nat) (s : ByteArray), s.size = n → n ≤ 1000 → n + 1 + K ≤ k → rdrop gapB (L s) = T → emendationlaw11_KindHeads.l2 k s a b x11 x12 = some true := by
  intro n
  induction n with
  | zero =>
    intro k s hn _ hk hT
    obtain ⟨k, rfl⟩ : ∃ m, k = m + 1 := ⟨k - 1, by omega⟩
    have h0 : L s = [] := List.eq_nil_of_length_eq_zero (by rw [← L_size]; exact hn)
    rw [emendationlaw11_KindHeads.l2, if_neg (by omega)]
    exact J k s (by omega) (by rw [← hT, h0]; rfl)
  | succ n ih =>
    intro k s hn hm hk hT
    obtain ⟨k, rfl⟩ : ∃ m, k = m + 1 := ⟨k - 1, by omega⟩
    have hl : n < (L s).length := by rw [← L_size]; omega
    have hsp : L s = (L s).take n ++ [(L s)[n]] := by
      have h1 : (L s).take (n + 1) = L s := List.take_of_length_le (by rw [← L_size]; omega)
      have h2 := List.take_append_getElem hl
      rw [h2, h1]
    have hw : wrap64 ((s.size : Int) - 1) = (n : Int) := by rw [hn, wrap_small (by omega) (by omega)]; omega
    have hz : (s.extract 0 n).size = n := by rw [L_size, L_upto, List.length_take]; omega
    have hg := gap_cases ((L s)[n])
    have rec_ : gapB ((L s)[n]) = true → emendationlaw11_KindHeads.l2 k (s.extract 0 n) a b x11 x12 = some true := fun g => by
      refine ih k _ hz (by omega) (by omega) ?_
      rw [L_upto, ← hT]
      conv => rhs; rw [hsp, rdrop_snoc, if_pos g]
    have hx : bt s (n : Int) = (((L s)[n]).toNat : Int) := bt_L s n hl
    rw [emendationlaw11_KindHeads.l2, if_pos (by omega), hw, if_pos (Int.natCast_nonneg n), if_pos (by omega), hx, Int.toNat_natCast]
    by_cases g1 : (((L s)[n]).toNat : Int) = 32
    · rw [if_pos g1, if_pos (by omega)]
      exact rec_ (hg.1 (.inl g1))
    · rw [if_neg g1]
      by_cases g2 : (((L s)[n]).toNat : Int) = 9
      · rw [if_pos g2, if_pos (by omega)]
        exact rec_ (hg.1 (.inr g2))
      · rw [if_neg g2]
        refine J k s (by omega) ?_
        rw [← hT]
        conv => rhs; rw [hsp, rdrop_snoc, if_neg (fun q => (hg.2 q).elim g1 g2)]
        exact hsp
theorem heads_l1 (a b : ByteArray) (x11 : Int) (x12 : ByteArray) (K : Nat) (T : List UInt8) (J : ∀ k s, K ≤ k → L s = T → emendationlaw11_KindHeads.j6 k s a b x11 x12 = some true) :
    ∀ (n k : Nat) (s : ByteArray), s.size = n → n ≤ 1000 → 2 * n + 5 + K ≤ k → trim (L s) = T → emendationlaw11_KindHeads.l1 k s a b x11 x12 = some true := by
  intro n
  induction n with
  | zero =>
    intro k s hn _ hk hT
    obtain ⟨k, rfl⟩ : ∃ m, k = m + 2 := ⟨k - 2, by omega⟩
    have h0 : L s = [] := List.eq_nil_of_length_eq_zero (by rw [← L_size]; exact hn)
    rw [emendationlaw11_KindHeads.l1, if_neg (by omega), emendationlaw11_KindHeads.j4]
    exact heads_l2 a b x11 x12 K T J 0 k s hn (by omega) (by omega) (by rw [← hT, h0]; rfl)
  | succ n ih =>
    intro k s hn hm hk hT
    obtain ⟨k, rfl⟩ : ∃ m, k = m + 2 := ⟨k - 2, by omega⟩
    obtain ⟨c, t, hct⟩ : ∃ c t, L s = c :: t := by
      cases h : L s with
      | nil => have := L_size s; rw [h, hn] at this; cases this
      | cons c t => exact ⟨c, t, rfl⟩
    have hb : bt s 0 = (c.toNat : Int) := bt_d s 0 c t (by rw [List.drop_zero]; exact hct)
    have hg := gap_cases c
    have hz : (s.extract 1 s.size).size = n := by
      have := L_size s
      rw [hct, hn, List.length_cons] at this
      rw [L_size, L_from, hct, List.drop_succ_cons, List.drop_zero]
      omega
    have rec_ : gapB c = true → emendationlaw11_KindHeads.l1 (k + 1) (s.extract 1 s.size) a b x11 x12 = some true := fun g => by
      refine ih (k + 1) _ hz (by omega) (by omega) ?_
      rw [L_from, hct, List.drop_succ_cons, List.drop_zero, ← hT, hct]
      unfold trim
      rw [List.dropWhile_cons, if_pos g]
    rw [emendationlaw11_KindHeads.l1, if_pos (by omega), if_pos (by omega), hb]
    by_cases g1 : (c.toNat : Int) = 32
    · rw [if_pos g1, if_pos (by omega)]
      exact rec_ (hg.1 (.inl g1))
    · rw [if_neg g1]
      by_cases g2 : (c.toNat : Int) = 9
      · rw [if_pos g2, if_pos (by omega)]
        exact rec_ (hg.1 (.inr g2))
      · rw [if_neg g2, emendationlaw11_KindHeads.j4]
        refine heads_l2 a b x11 x12 K T J (n + 1) k s hn hm (by omega) ?_
        rw [← hT]
        unfold trim
        rw [hct, List.dropWhile_cons, if_neg (fun q => (hg.2 q).elim g1 g2)]
theorem trim_sp (l : List UInt8) : trim (32 :: l) = trim l := by
  unfold trim
  rw [List.dropWhile_cons, if_pos (by decide)]
theorem heads_head (n : Nat) (h1 : 1 ≤ n) (t : List UInt8) : headN (List.replicate n 35 ++ 32 :: t) = if n ≤ 6 then n else 0 := by
  have hr : run (List.replicate n 35 ++ 32 :: t) 35 = n := run_rep 35 n (32 :: t) (fun b hb => by simp at hb; subst hb; decide)
  have hg : (List.replicate n (35 : UInt8) ++ 32 :: t)[n]? = some 32 := by
    rw [List.getElem?_append_right (by rw [List.length_replicate]; exact Nat.le_refl _), List.length_replicate, Nat.sub_self]
    rfl
  unfold headN
  rw [hr]
  by_cases h : n ≤ 6
  · rw [if_pos ⟨h, .inr hg⟩, if_pos h]
  · rw [if_neg (fun q => h q.1), if_neg h]
theorem heads_kind (n : Nat) (h1 : 1 ≤ n) (t : List UInt8) : kindV (List.replicate n 35 ++ 32 :: t) = 2 ↔ n ≤ 6 := by
  have ht : trim (List.replicate n 35 ++ 32 :: t) ≠ [] := by
    obtain ⟨m, rfl⟩ : ∃ m, n = m + 1 := ⟨n - 1, by omega⟩
    exact trim_some (b := 35) (by rw [List.replicate_succ, List.cons_append]; exact List.mem_cons_self) (by decide)
  have hh := heads_head n h1 t
  unfold kindV
  rw [if_neg ht, hh]
  by_cases h : n ≤ 6
  · rw [if_pos h, if_pos (by omega)]
    exact ⟨fun _ => h, fun _ => rfl⟩
  · rw [if_neg h, if_neg (Nat.lt_irrefl 0)]
    constructor
    · intro q
      exfalso
      revert q
      repeat' split
      all_goals decide
    · intro q; exact absurd q h
theorem heads_l0 (s a b : ByteArray) (hs : s.size ≤ 1000) (ha : a.size ≤ 1000) (hb : b.size ≤ 1000) (n : Nat) (h1 : 1 ≤ n) (h8 : n ≤ 8) : ∀ (d i k : Nat) (o : ByteArray), i + d = n → 50000 + d < k → L o = List.replicate i 35 →
    emendationlaw11_KindHeads.l0 k s a b (n : Int) o (n : Int) (i : Int) = some true := by
  intro d
  induction d with
  | zero =>
    intro i k o hi hk hLo
    obtain rfl : i = n := by omega
    obtain ⟨k, rfl⟩ : ∃ m, k = m + 2 := ⟨k - 2, by omega⟩
    have hoz : o.size = i := by rw [L_size, hLo, List.length_replicate]
    have hz1 : (o ++ (⟨#[32]⟩ : ByteArray)).size = i + 1 := by rw [size_append, hoz]; rfl
    have hz2 : ((o ++ (⟨#[32]⟩ : ByteArray)) ++ s).size = i + 1 + s.size := by rw [size_append, hz1]
    have hl : L ((o ++ (⟨#[32]⟩ : ByteArray)) ++ s) = List.replicate i 35 ++ 32 :: L s := by rw [L_append, L_append, hLo, List.append_assoc]; rfl
    have hH := Head_eq ((o ++ (⟨#[32]⟩ : ByteArray)) ++ s) (k + 1) (by rw [hz2]; omega) (by rw [hz2]; omega)
    rw [hl, heads_head i h1] at hH
    have hdrop : (List.replicate i (35 : UInt8) ++ 32 :: L s).drop i = 32 :: L s := by
      rw [List.drop_append_of_le_length (by rw [List.length_replicate]; exact Nat.le_refl _), List.drop_of_length_le (by rw [List.length_replicate]; exact Nat.le_refl _), List.nil_append]
    rw [emendationlaw11_KindHeads.l0, if_neg (by omega), if_pos (by omega), if_pos (by rw [hz1]; omega), hH, Option.bind_some]
    by_cases h : i ≤ 6
    · rw [if_pos ((heads_kind i h1 (L s)).2 h), if_pos h, hdrop, trim_sp]
      dsimp only
      rw [beq_self_eq_true, decide_eq_true (show (i : Int) ≤ 6 by omega), if_neg (by decide), if_neg (by omega), bne_self_eq_false, emendationlaw11_KindHeads.j2, if_neg (by decide)]
      refine heads_l1 a b (i : Int) _ 40010 (trim (L s)) (fun k2 s2 hk2 hs2 => ?_) s.size k s rfl hs (by omega) rfl
      obtain ⟨k2, rfl⟩ : ∃ m, k2 = m + 1 := ⟨k2 - 1, by omega⟩
      have e : ((⟨(trim (L s)).toArray⟩ : ByteArray).toList != s2.toList) = false := by
        rw [L_toList, L_toList, L_mk, hs2, bne_self_eq_false]
      rw [emendationlaw11_KindHeads.j6, if_neg (by omega), e]
      exact heads_j7 a b ha hb k2 (by omega)
    · rw [if_neg (fun q => h ((heads_kind i h1 (L s)).1 q))]
      dsimp only
      have e1 : ((0 : Int) == (i : Int)) = false := beq_eq_false_iff_ne.2 (by omega)
      rw [e1, decide_eq_false (show ¬ (i : Int) ≤ 6 by omega), if_neg (by decide), if_pos rfl, emendationlaw11_KindHeads.j2, if_neg (by decide)]
      refine heads_l1 a b 0 _ 40010 (trim (L s)) (fun k2 s2 hk2 hs2 => ?_) s.size k s rfl hs (by omega) rfl
      obtain ⟨k2, rfl⟩ : ∃ m, k2 = m + 1 := ⟨k2 - 1, by omega⟩
      rw [emendationlaw11_KindHeads.j6, if_pos rfl]
      exact heads_j7 a b ha hb k2 (by omega)
  | succ d ih =>
    intro i k o hi hk hLo
    obtain ⟨k, rfl⟩ : ∃ m, k = m + 1 := ⟨k - 1, by omega⟩
    have hoz : o.size = i := by rw [L_size, hLo, List.length_replicate]
    have hw1 : wrap64 ((i : Int) + 1) = ((i + 1 : Nat) : Int) := by rw [wrap_small (by omega) (by omega)]; omega
    rw [emendationlaw11_KindHeads.l0, if_pos (by omega), if_pos (by omega), hw1]
    refine ih (i + 1) k _ (by omega) (by omega) ?_
    rw [L_append, hLo, List.replicate_succ']
    rfl
theorem level_small (x : Int) (h : 0 ≤ x ∧ x ≤ 255) : ∃ n : Nat, wrap64 (1 + Int.tmod (wrap64 x) 8) = n ∧ 1 ≤ n ∧ n ≤ 8 := by
  obtain ⟨m, rfl⟩ := Int.eq_ofNat_of_zero_le h.1
  have hm := Nat.mod_lt m (show 0 < 8 by decide)
  refine ⟨1 + m % 8, ?_, by omega, by omega⟩
  rw [wrap_small (x := (m : Int)) (by omega) (by omega)]
  have : Int.tmod (m : Int) 8 = ((m % 8 : Nat) : Int) := rfl
  rw [this, wrap_small (by omega) (by omega)]
  omega
theorem KindHeads (a0 : Int) (a1 a2 a3 : ByteArray) (h0 : (Lit.int .u8 a0).wf = true) (h1 : a1.size ≤ 140737488351232) (h2 : a2.size ≤ 140737488351232) (h3 : a3.size ≤ 140737488351232) : ∃ k, emendationlaw11_KindHeads.f k a0 a1 a2 a3 = some true := by
  have b0 : 0 ≤ a0 ∧ a0 ≤ 255 := by simpa [Lit.wf, IntKind.min, IntKind.max, IntKind.signed, IntKind.bits, Int.lt_add_one_iff] using h0
  clear h0
  obtain ⟨n, en, hn1, hn8⟩ := level_small a0 b0
  obtain ⟨K, hK⟩ : ∃ K, K = 60000 := ⟨_, rfl⟩
  refine ⟨K + 1, ?_⟩
  unfold emendationlaw11_KindHeads.f
  rw [awake11 _ (by omega), Option.bind_some, if_pos rfl, wrap_small (x := (a1.size : Int) + (a2.size : Int)) (by omega) (by omega), wrap_small (by omega) (by omega), emendationlaw11_KindHeads.j0]
  by_cases h : (a1.size : Int) + (a2.size : Int) + (a3.size : Int) > 1000
  · rw [decide_eq_true h, if_pos rfl, awake11 _ (by omega)]; rfl
  · rw [decide_eq_false h, if_neg (by decide), en]
    exact heads_l0 a1 a2 a3 (by omega) (by omega) (by omega) n hn1 hn8 n 0 K ⟨#[]⟩ (by omega) (by omega) rfl
end Go.Proofs.YticaofendehebaaDoor.Pure
