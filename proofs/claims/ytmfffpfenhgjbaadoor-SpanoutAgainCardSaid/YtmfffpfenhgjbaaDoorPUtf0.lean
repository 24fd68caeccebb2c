/- Reading one character, plain: Go's decoder over numbers, with nothing where it fails; the reference's way gives the same. -/
import Derived.Test.YtmfffpfenhgjbaaDoorBase
import Derived.Lib.MapLaws
import Derived.Lib.ValidLaws
namespace Go.Proofs.YtmfffpfenhgjbaaDoor.Pure
open Go.RowKit Go.Lib

/-- What Next says at the bytes l: the character and its bytes, or nothing. -/
def nxp (p : Nat × Nat) : Nat × Nat := if p.1 = 65533 ∧ p.2 = 1 then (0, 0) else p
theorem nxp_bad : nxp (65533, 1) = (0, 0) := rfl
theorem nxp_ok (c m : Nat) (h : m ≠ 1) : nxp (c, m) = (c, m) := if_neg (fun k => h k.2)
def nxN (n b0 b1 b2 b3 : Nat) : Nat × Nat := nxp (decodeN n b0 b1 b2 b3)
/-- The reference's way. -/
def refN (n b0 b1 b2 b3 : Nat) : Nat × Nat :=
  if b0 < 128 then (b0, 1)
  else if 194 ≤ b0 ∧ b0 ≤ 223 then (if n < 2 then (0, 0) else if (128 ≤ b1 ∧ b1 ≤ 191) then ((b0 - 192) * 64 + b1 - 128, 2) else (0, 0))
  else if 224 ≤ b0 ∧ b0 ≤ 239 then (if n < 3 then (0, 0) else if (128 ≤ b1 ∧ b1 ≤ 191) then (if (128 ≤ b2 ∧ b2 ≤ 191) then
      (if ((b0 - 224) * 64 + b1 - 128) * 64 + b2 - 128 < 2048 then (0, 0) else if 55296 ≤ ((b0 - 224) * 64 + b1 - 128) * 64 + b2 - 128 ∧ ((b0 - 224) * 64 + b1 - 128) * 64 + b2 - 128 ≤ 57343 then (0, 0) else (((b0 - 224) * 64 + b1 - 128) * 64 + b2 - 128, 3))
      else (0, 0)) else (0, 0))
  else if 240 ≤ b0 ∧ b0 ≤ 244 then (if n < 4 then (0, 0) else if (128 ≤ b1 ∧ b1 ≤ 191) then (if (128 ≤ b2 ∧ b2 ≤ 191) then (if (128 ≤ b3 ∧ b3 ≤ 191) then
      (if (((b0 - 240) * 64 + b1 - 128) * 64 + b2 - 128) * 64 + b3 - 128 < 65536 then (0, 0) else if (((b0 - 240) * 64 + b1 - 128) * 64 + b2 - 128) * 64 + b3 - 128 > 1114111 then (0, 0) else ((((b0 - 240) * 64 + b1 - 128) * 64 + b2 - 128) * 64 + b3 - 128, 4))
      else (0, 0)) else (0, 0)) else (0, 0))
  else (0, 0)
set_option maxRecDepth 100000 in
set_option maxHeartbeats 4000000 in
theorem refN_1 (n b0 b1 b2 b3 : Nat) (_hn : 1 ≤ n) (h : b0 < 194 ∨ 245 ≤ b0) (h0 : b0 < 256) : refN n b0 b1 b2 b3 = nxN n b0 b1 b2 b3 := by
  by_cases h1 : b0 < 128
  · unfold refN nxN decodeN
    simp only [if_pos h1]
    exact (if_neg (fun k => by have := k.1; simp only at this; omega)).symm
  · unfold nxN
    rw [decodeN_bad n b0 b1 b2 b3 (by omega)]
    unfold refN
    rw [if_neg h1, if_neg (by omega), if_neg (by omega), if_neg (by omega), nxp_bad]
set_option maxRecDepth 100000 in
set_option maxHeartbeats 4000000 in
theorem refN_2 (n b0 b1 b2 b3 : Nat) (hn : 1 ≤ n) (h : 194 ≤ b0 ∧ b0 ≤ 223) (h1 : b1 < 256) (h2 : b2 < 256) (h3 : b3 < 256) : refN n b0 b1 b2 b3 = nxN n b0 b1 b2 b3 := by
  unfold nxN
  rw [← slow_C2 n b0 b1 b2 b3 hn h1 h2 h3 (by omega)]
  obtain ⟨p, hp⟩ : ∃ p, slowN n b0 b1 b2 b3 2 128 191 = p := ⟨_, rfl⟩
  rw [hp]
  unfold slowN at hp
  unfold refN
  repeat' split at hp
  all_goals subst hp
  all_goals first | rw [nxp_bad] | rw [nxp_ok _ _ (by decide)]
  all_goals repeat' split
  all_goals first | rfl | (exfalso; omega) | (apply Prod.ext <;> simp only <;> omega)
set_option maxRecDepth 100000 in
set_option maxHeartbeats 4000000 in
theorem refN_E0 (n b0 b1 b2 b3 : Nat) (hn : 1 ≤ n) (h : b0 = 224) (h1 : b1 < 256) (h2 : b2 < 256) (h3 : b3 < 256) : refN n b0 b1 b2 b3 = nxN n b0 b1 b2 b3 := by
  unfold nxN
  rw [← slow_E0 n b0 b1 b2 b3 hn h1 h2 h3 (by omega)]
  obtain ⟨p, hp⟩ : ∃ p, slowN n b0 b1 b2 b3 3 160 191 = p := ⟨_, rfl⟩
  rw [hp]
  unfold slowN at hp
  unfold refN
  repeat' split at hp
  all_goals subst hp
  all_goals first | rw [nxp_bad] | rw [nxp_ok _ _ (by decide)]
  all_goals repeat' split
  all_goals first | rfl | (exfalso; omega) | (apply Prod.ext <;> simp only <;> omega)
set_option maxRecDepth 100000 in
set_option maxHeartbeats 4000000 in
theorem refN_E1 (n b0 b1 b2 b3 : Nat) (hn : 1 ≤ n) (h : (225 ≤ b0 ∧ b0 < 237) ∨ (238 ≤ b0 ∧ b0 < 240)) (h1 : b1 < 256) (h2 : b2 < 256) (h3 : b3 < 256) : refN n b0 b1 b2 b3 = nxN n b0 b1 b2 b3 := by
  unfold nxN
  rw [← slow_E1 n b0 b1 b2 b3 hn h1 h2 h3 (by omega)]
  obtain ⟨p, hp⟩ : ∃ p, slowN n b0 b1 b2 b3 3 128 191 = p := ⟨_, rfl⟩
  rw [hp]
  unfold slowN at hp
  unfold refN
  repeat' split at hp
  all_goals subst hp
  all_goals first | rw [nxp_bad] | rw [nxp_ok _ _ (by decide)]
  all_goals repeat' split
  all_goals first | rfl | (exfalso; omega) | (apply Prod.ext <;> simp only <;> omega)
set_option maxRecDepth 100000 in
set_option maxHeartbeats 4000000 in
theorem refN_ED (n b0 b1 b2 b3 : Nat) (hn : 1 ≤ n) (h : b0 = 237) (h1 : b1 < 256) (h2 : b2 < 256) (h3 : b3 < 256) : refN n b0 b1 b2 b3 = nxN n b0 b1 b2 b3 := by
  unfold nxN
  rw [← slow_ED n b0 b1 b2 b3 hn h1 h2 h3 (by omega)]
  obtain ⟨p, hp⟩ : ∃ p, slowN n b0 b1 b2 b3 3 128 159 = p := ⟨_, rfl⟩
  rw [hp]
  unfold slowN at hp
  unfold refN
  repeat' split at hp
  all_goals subst hp
  all_goals first | rw [nxp_bad] | rw [nxp_ok _ _ (by decide)]
  all_goals repeat' split
  all_goals first | rfl | (exfalso; omega) | (apply Prod.ext <;> simp only <;> omega)
set_option maxRecDepth 100000 in
set_option maxHeartbeats 4000000 in
theorem refN_F0 (n b0 b1 b2 b3 : Nat) (hn : 1 ≤ n) (h : b0 = 240) (h1 : b1 < 256) (h2 : b2 < 256) (h3 : b3 < 256) : refN n b0 b1 b2 b3 = nxN n b0 b1 b2 b3 := by
  unfold nxN
  rw [← slow_F0 n b0 b1 b2 b3 hn h1 h2 h3 (by omega)]
  obtain ⟨p, hp⟩ : ∃ p, slowN n b0 b1 b2 b3 4 144 191 = p := ⟨_, rfl⟩
  rw [hp]
  unfold slowN at hp
  unfold refN
  repeat' split at hp
  all_goals subst hp
  all_goals first | rw [nxp_bad] | rw [nxp_ok _ _ (by decide)]
  all_goals repeat' split
  all_goals first | rfl | (exfalso; omega) | (apply Prod.ext <;> simp only <;> omega)
set_option maxRecDepth 100000 in
set_option maxHeartbeats 4000000 in
theorem refN_F1 (n b0 b1 b2 b3 : Nat) (hn : 1 ≤ n) (h : 241 ≤ b0 ∧ b0 < 244) (h1 : b1 < 256) (h2 : b2 < 256) (h3 : b3 < 256) : refN n b0 b1 b2 b3 = nxN n b0 b1 b2 b3 := by
  unfold nxN
  rw [← slow_F1 n b0 b1 b2 b3 hn h1 h2 h3 (by omega)]
  obtain ⟨p, hp⟩ : ∃ p, slowN n b0 b1 b2 b3 4 128 191 = p := ⟨_, rfl⟩
  rw [hp]
  unfold slowN at hp
  unfold refN
  repeat' split at hp
  all_goals subst hp
  all_goals first | rw [nxp_bad] | rw [nxp_ok _ _ (by decide)]
  all_goals repeat' split
  all_goals first | rfl | (exfalso; omega) | (apply Prod.ext <;> simp only <;> omega)
set_option maxRecDepth 100000 in
set_option maxHeartbeats 4000000 in
theorem refN_F4 (n b0 b1 b2 b3 : Nat) (hn : 1 ≤ n) (h : b0 = 244) (h1 : b1 < 256) (h2 : b2 < 256) (h3 : b3 < 256) : refN n b0 b1 b2 b3 = nxN n b0 b1 b2 b3 := by
  unfold nxN
  rw [← slow_F4 n b0 b1 b2 b3 hn h1 h2 h3 (by omega)]
  obtain ⟨p, hp⟩ : ∃ p, slowN n b0 b1 b2 b3 4 128 143 = p := ⟨_, rfl⟩
  rw [hp]
  unfold slowN at hp
  unfold refN
  repeat' split at hp
  all_goals subst hp
  all_goals first | rw [nxp_bad] | rw [nxp_ok _ _ (by decide)]
  all_goals repeat' split
  all_goals first | rfl | (exfalso; omega) | (apply Prod.ext <;> simp only <;> omega)
theorem refN_eq (n b0 b1 b2 b3 : Nat) (hn : 1 ≤ n) (h0 : b0 < 256) (h1 : b1 < 256) (h2 : b2 < 256) (h3 : b3 < 256) : refN n b0 b1 b2 b3 = nxN n b0 b1 b2 b3 := by
  by_cases a : b0 < 194 ∨ 245 ≤ b0
  · exact refN_1 n b0 b1 b2 b3 hn a h0
  by_cases b : b0 ≤ 223
  · exact refN_2 n b0 b1 b2 b3 hn (by omega) h1 h2 h3
  by_cases c : b0 = 224
  · exact refN_E0 n b0 b1 b2 b3 hn c h1 h2 h3
  by_cases d : b0 = 237
  · exact refN_ED n b0 b1 b2 b3 hn d h1 h2 h3
  by_cases e : b0 < 240
  · exact refN_E1 n b0 b1 b2 b3 hn (by omega) h1 h2 h3
  by_cases f : b0 = 240
  · exact refN_F0 n b0 b1 b2 b3 hn f h1 h2 h3
  by_cases g : b0 = 244
  · exact refN_F4 n b0 b1 b2 b3 hn g h1 h2 h3
  exact refN_F1 n b0 b1 b2 b3 hn (by omega) h1 h2 h3
end Go.Proofs.YtmfffpfenhgjbaaDoor.Pure
