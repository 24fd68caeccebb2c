/- A code between backticks is read as it is. -/
import Derived.Test.YtmfffpfenhgjbaaDoorPParse
set_option linter.unusedSimpArgs false
set_option linter.unusedVariables false
namespace Go.Proofs.YtmfffpfenhgjbaaDoor.Pure
open Go.RowKit Go.Lib Go.Proofs.YtmfffpfenhgjbaaDoor.X Go.Proofs.YtmfffpfenhgjbaaDoor.G Go.Proofs.YtmfffpfenhgjbaaDoorW.PrintWords Go.Proofs.YtmfffpfenhgjbaaDoorW.PrintLast Go.Proofs.YtmfffpfenhgjbaaDoorW.PrintMore
theorem endB_none (c : UInt8) : endB false false c = false := by unfold endB; simp
theorem escL_tick (z : List UInt8) : escL (96 :: z) = none := by
  unfold escL
  split
  · rename_i c' d t' heq
    injection heq with g1 g2
    subst g1
    rw [if_neg (fun q => by have := q.1; revert this; decide)]
  · rfl
/-- A code, and what is behind it. -/
theorem rd_code (e k : Bool) (A : List Sp) (n : Nat) (hn : 1 ≤ n) (x r : List UInt8) (hx : ∃ p q, x = p :: q ∧ p.toNat ≠ 96) (hl : ∀ h : x ≠ [], (x.getLast h).toNat ≠ 96) (h10 : ∀ c ∈ x, c.toNat ≠ 10) (hrun : runB n x = false) (hr : ∀ c ∈ r.head?, c.toNat ≠ 96) :
    rdL dstB e k A (List.replicate n 96 ++ x ++ List.replicate n 96 ++ r) = rdL dstB e k (A ++ [⟨2, ⟨(stripL x).toArray⟩, []⟩]) r := by
  obtain ⟨m, rfl⟩ : ∃ m, n = m + 1 := ⟨n - 1, by omega⟩
  obtain ⟨p, q, hpq, hp⟩ := hx
  have hl0 : List.replicate (m + 1) 96 ++ x ++ List.replicate (m + 1) 96 ++ r = 96 :: (List.replicate m 96 ++ (x ++ (List.replicate (m + 1) 96 ++ r))) := by
    rw [List.replicate_succ]; simp
  have ht : ticksL (96 :: (List.replicate m 96 ++ (x ++ (List.replicate (m + 1) 96 ++ r)))) = m + 1 := by
    have := ticks_rep (m + 1) (x ++ (List.replicate (m + 1) 96 ++ r)) (by rw [hpq]; simp; exact hp)
    rw [List.replicate_succ (n := m), List.cons_append] at this
    exact this
  have hd : (96 :: (List.replicate m 96 ++ (x ++ (List.replicate (m + 1) 96 ++ r)))).drop (m + 1) = x ++ (List.replicate (m + 1) 96 ++ r) := by
    have : (96 : UInt8) :: (List.replicate m 96 ++ (x ++ (List.replicate (m + 1) 96 ++ r))) = List.replicate (m + 1) 96 ++ (x ++ (List.replicate (m + 1) 96 ++ r)) := by
      rw [List.replicate_succ (n := m)]; rfl
    rw [this, List.drop_left' (by simp)]
  have e1 : endB e k 96 = false := by unfold endB; cases e <;> cases k <;> rfl
  rw [hl0]
  generalize hz : List.replicate m 96 ++ (x ++ (List.replicate (m + 1) 96 ++ r)) = z at *
  have hzl : x.length < (96 :: z).length := by
    rw [← hz]; simp only [List.length_cons, List.length_append, List.length_replicate]; omega
  have hc := code_back (m + 1) hn r hr (96 :: z).length [] x hzl h10 hrun hl
  have e3 : enclL dstB (fun e k l => rdL dstB e k [] l) e k (96 :: z) = some (⟨2, ⟨(stripL x).toArray⟩, []⟩, r) := by
    unfold enclL
    dsimp only
    rw [if_neg (by decide), if_neg (fun q => by have := q.1; revert this; decide), if_pos (by decide), ht, hd, hc, List.nil_append]
    rfl
  rw [rdL_cons, e1, escL_tick, e3]
  rfl
theorem ticks_count : ∀ l : List UInt8, ticksL l ≤ l.count 96
  | [] => Nat.le_refl _
  | c :: t => by
    rw [ticksL]
    by_cases h : c.toNat = 96
    · have : c = 96 := toNat_inj h
      subst this
      rw [if_pos h, List.count_cons_self]
      have := ticks_count t
      omega
    · rw [if_neg h]; omega
theorem run_count (n : Nat) (hn : 1 ≤ n) : ∀ (m : Nat) (l : List UInt8), l.length ≤ m → runB n l = true → n ≤ l.count 96
  | 0, l, hl, h => by
    obtain rfl := List.eq_nil_of_length_eq_zero (Nat.le_zero.1 hl)
    cases h
  | m + 1, [], hl, h => by cases h
  | m + 1, c :: t, hl, h => by
    rw [runB_cons] at h
    split at h
    · rename_i g
      have := ticks_count (c :: t)
      omega
    · rw [List.length_cons] at hl
      have h1 := run_count n hn m _ (by rw [List.length_drop, List.length_cons]; omega) h
      exact Nat.le_trans h1 ((List.drop_sublist _ _).count_le _)
end Go.Proofs.YtmfffpfenhgjbaaDoor.Pure
