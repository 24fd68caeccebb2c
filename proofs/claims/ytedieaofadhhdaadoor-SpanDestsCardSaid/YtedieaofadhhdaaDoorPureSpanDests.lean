/- The law SpanDests, as a statement of bytes. -/
import Derived.Test.YtedieaofadhhdaaDoorPAll
import Derived.Test.YtedieaofadhhdaaDoorX10
set_option linter.unusedSimpArgs false
set_option linter.unusedVariables false
namespace Go.Proofs.YtedieaofadhhdaaDoor.Pure
open Go.RowKit Go.Lib Go.Proofs.YtedieaofadhhdaaDoor.X Go.Proofs.YtedieaofadhhdaaDoor.G Go.Proofs.YtedieaofadhhdaaDoorW.PrintWords Go.Proofs.YtedieaofadhhdaaDoorW.PrintLast Go.Proofs.YtedieaofadhhdaaDoorW.PrintMore
theorem letters_low (b : UInt8) (h : letters.data.toList.contains b = true) : ¬ (b.toNat ≤ 32) ∧ b.toNat ≠ 40 ∧ b.toNat ≠ 41 ∧ b.toNat ≠ 91 ∧ b.toNat ≠ 93 ∧ ¬ (127 ≤ b.toNat) := by
  have H : ∀ n : Fin 256, letters.data.toList.contains (UInt8.ofNat n.val) = true → ¬ ((UInt8.ofNat n.val).toNat ≤ 32) ∧ (UInt8.ofNat n.val).toNat ≠ 40 ∧ (UInt8.ofNat n.val).toNat ≠ 41 ∧ (UInt8.ofNat n.val).toNat ≠ 91 ∧ (UInt8.ofNat n.val).toNat ≠ 93 ∧ ¬ (127 ≤ (UInt8.ofNat n.val).toNat) := by decide +kernel
  have := H ⟨b.toNat, b.toNat_lt⟩
  simp only [UInt8.ofNat_toNat] at this
  exact this h
theorem dest_append (a b : List UInt8) : destL (a ++ b) = ((destL a || a.isEmpty) && (destL b || b.isEmpty) && !(a ++ b).isEmpty) := by
  unfold destL
  rw [List.all_append]
  cases a with
  | nil => cases b <;> simp
  | cons x t => cases b <;> simp
theorem dests_l0 (a b : ByteArray) (ha : a.size ≤ 140737488351232) (hb : b.size ≤ 140737488351232) : ∀ (d i k : Nat), i + d = (L a).length → d < k →
    emendationlaw07_SpanDests.l0 k a b (destL (L a)) (destL (L b)) (a.size : Int) (i : Int) = some true := by
  have hsl : a.size = (L a).length := L_size a
  have hsb : b.size = (L b).length := L_size b
  intro d
  induction d with
  | zero =>
    intro i k hi hk
    obtain ⟨k, rfl⟩ : ∃ m, k = m + 1 := ⟨k - 1, by omega⟩
    rw [emendationlaw07_SpanDests.l0, if_neg (by omega), if_pos (by omega), span_dest_eq, Option.bind_some, L_append, dest_append, L_toList, L_toList, L_toList, L_append]
    generalize destL (L a) = x
    generalize destL (L b) = y
    cases L a with
    | nil => cases L b <;> cases x <;> cases y <;> simp
    | cons p q => cases L b <;> cases x <;> cases y <;> simp
  | succ d ih =>
    intro i k hi hk
    obtain ⟨k, rfl⟩ : ∃ m, k = m + 1 := ⟨k - 1, by omega⟩
    have q1 : (i : Int) < (a.size : Int) := by omega
    have hw1 : wrap64 ((i : Int) + 1) = ((i + 1 : Nat) : Int) := by rw [wrap_small (by omega) (by omega)]; omega
    have hx := ih (i + 1) k (by omega) (by omega)
    obtain ⟨c, t, hd⟩ : ∃ c t, (L a).drop i = c :: t := by
      rw [List.drop_eq_getElem_cons (by omega)]; exact ⟨_, _, rfl⟩
    rw [emendationlaw07_SpanDests.l0, if_pos q1, hw1, hx]
    cases hD : destL (L a) with
    | false => rfl
    | true =>
      have hm : c ∈ L a := List.mem_of_mem_drop (by rw [hd]; exact List.mem_cons_self)
      have hc : letters.data.toList.contains c = true := by
        unfold destL at hD
        exact List.all_eq_true.1 (Bool.and_eq_true_iff.1 hD).2 c hm
      obtain ⟨h1, h2, h3, h4, h5, h6⟩ := letters_low c hc
      rw [if_pos rfl, if_pos (Int.natCast_nonneg i), if_pos q1, bt_d a i c t hd, if_neg (by omega), if_neg (by omega), if_neg (by omega), if_neg (by omega), if_neg (by omega), if_neg (by omega)]
theorem SpanDests (a0 a1 : ByteArray) (h0 : a0.size ≤ 140737488351232) (h1 : a1.size ≤ 140737488351232) : ∃ k, emendationlaw07_SpanDests.f k a0 a1 = some true := by
  refine ⟨(a0.size + 200) + 1, ?_⟩
  unfold emendationlaw07_SpanDests.f
  rw [awake07 _ (by omega), Option.bind_some, if_pos rfl, wrap_small (by omega) (by omega)]
  rw [emendationlaw07_SpanDests.j0]
  by_cases h : (a0.size : Int) + (a1.size : Int) > 2000
  · rw [if_pos (decide_eq_true h), awake07 _ (by omega)]; rfl
  · rw [if_neg (by simpa using h), span_dest_eq, Option.bind_some, span_dest_eq, Option.bind_some]
    exact dests_l0 a0 a1 h0 h1 (L a0).length 0 _ (by omega) (by rw [← L_size]; omega)
end Go.Proofs.YtedieaofadhhdaaDoor.Pure
