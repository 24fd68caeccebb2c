/- The law UtfLong, as a statement of lists of numbers: a row of one byte, about the greatest length. -/
import Derived.Test.YtmamjecpjookoaaDoorX4
import Derived.Test.YtmamjecpjookoaaDoorPUtf2
namespace Go.Proofs.YtmamjecpjookoaaDoor.Pure
open Go.RowKit Go.Lib Go.Proofs.YtmamjecpjookoaaDoor.X Go.Proofs.YtmamjecpjookoaaDoor.G Go.Proofs.YtmamjecpjookoaaDoorW.PrintWords Go.Proofs.YtmamjecpjookoaaDoorW.PrintLast Go.Proofs.YtmamjecpjookoaaDoorW.PrintMore
theorem valid_rep (c : UInt8) (h : c.toNat < 128) : ∀ m, validD (List.replicate m c) = true
  | 0 => rfl
  | m + 1 => by rw [List.replicate_succ, validD_cons _ _ h]; exact valid_rep c h m
theorem invalid_rep (c : UInt8) (h : 128 ≤ c.toNat) (m : Nat) : validD (List.replicate (m + 1) c) = false := by
  have hne : List.replicate (m + 1) c ≠ [] := by simp
  rw [validD_step _ hne]
  have hg : ∀ j, j < m + 1 → ((List.replicate (m + 1) c).getD j 0) = c := fun j hj => by
    rw [List.getD_eq_getElem?_getD, List.getElem?_replicate, if_pos hj]; rfl
  have hd : decodeL (List.replicate (m + 1) c) = (65533, 1) := by
    rw [decodeL_N, hg 0 (by omega)]
    have hb := c.toNat_lt
    by_cases h2 : 1 < m + 1
    · rw [hg 1 h2]
      unfold decodeN
      rw [if_neg (by omega)]
      repeat' split
      all_goals first | rfl | (exfalso; omega)
    · rw [show m = 0 from by omega]
      unfold decodeN
      rw [if_neg (by omega), if_neg (by simp), if_neg (by simp), if_neg (by simp)]
  rw [hd, if_pos ⟨rfl, rfl⟩]
theorem set_fill (c : Int) (a n i : Nat) (h : i < n) (hn : a = n) : (List.replicate i c ++ List.replicate (a - i) (0 : Int)).set i c = List.replicate (i + 1) c ++ List.replicate (a - (i + 1)) (0 : Int) := by
  subst hn
  apply List.ext_getElem?
  intro j
  simp only [List.getElem?_set, List.getElem?_append, List.getElem?_replicate, List.length_replicate, List.length_append]
  repeat' split
  all_goals first | rfl | (exfalso; omega) | omega
theorem Long_l0 (c : Int) (h0 : 0 ≤ c) (h1 : c < 256) (n : Nat) (hn : 0 < n) (hn2 : n ≤ 2000000) : ∀ (d i k : Nat), i + d = n → d < k → emendationlaw01_UtfLong.l0 k c (List.replicate i c ++ List.replicate d (0 : Int)) (n : Int) (i : Int) = some true := by
  intro d
  induction d with
  | zero =>
    intro i k h hk
    obtain ⟨k, rfl⟩ : ∃ m, k = m + 1 := ⟨k - 1, by omega⟩
    obtain rfl : i = n := by omega
    simp only [emendationlaw01_UtfLong.l0]
    have hl : (List.replicate i c ++ List.replicate 0 (0 : Int)).length = i := by simp
    have hb : (List.replicate i c ++ List.replicate 0 (0 : Int)).all isByte = true := by
      simp [isByte]
      right; omega
    have hB : Lib.bytesOf (List.replicate i c ++ List.replicate 0 (0 : Int)) = List.replicate i (UInt8.ofNat c.toNat) := by simp [Lib.bytesOf]
    rw [if_neg (by omega), utf_Check_nums _ hb (by omega), Option.bind_some, hl, hB]
    have hx : (UInt8.ofNat c.toNat).toNat = c.toNat := by simp; omega
    unfold checkV
    rw [List.length_replicate]
    by_cases g : i > 1048576
    · rw [if_pos (by omega), if_pos g]; rfl
    rw [if_neg (by omega), if_neg g]
    obtain ⟨m, rfl⟩ : ∃ m, i = m + 1 := ⟨i - 1, by omega⟩
    by_cases z : c = 0
    · subst z
      rw [if_pos rfl, if_pos (by simp [List.replicate_succ])]
      rfl
    · have hz : (List.replicate (m + 1) (UInt8.ofNat c.toNat)).contains 0 = false := by
        rw [List.contains_eq_mem, decide_eq_false_iff_not, List.mem_replicate]
        rintro ⟨_, e⟩
        have := congrArg UInt8.toNat e
        rw [hx] at this
        have h00 : (0 : UInt8).toNat = 0 := rfl
        omega
      rw [if_neg z]
      simp only [hz, Bool.false_eq_true, if_false]
      by_cases y : c < 128
      · rw [valid_rep _ (by omega), if_pos rfl, decide_eq_true y]
        rfl
      · rw [invalid_rep _ (by omega), decide_eq_false y]
        rfl
  | succ d ih =>
    intro i k h hk
    obtain ⟨k, rfl⟩ : ∃ m, k = m + 1 := ⟨k - 1, by omega⟩
    simp only [emendationlaw01_UtfLong.l0]
    have hl : (List.replicate i c ++ List.replicate (d + 1) (0 : Int)).length = n := by simp; omega
    rw [if_pos (by omega), if_pos (by omega), hl, if_pos (by omega), wrap_small (by omega) (by omega), Int.toNat_natCast]
    have hs := set_fill c n n i (by omega) rfl
    rw [show n - i = d + 1 from by omega, show n - (i + 1) = d from by omega] at hs
    rw [hs, show (i : Int) + 1 = ((i + 1 : Nat) : Int) from by omega]
    exact ih (i + 1) k (by omega) (by omega)
theorem UtfLong (a0 a1 : Int) (h0 : (Lit.int .u8 a0).wf = true) (h1 : (Lit.int .u8 a1).wf = true) : ∃ k, emendationlaw01_UtfLong.f k a0 a1 = some true := by
  have b0 : 0 ≤ a0 ∧ a0 ≤ 255 := by simpa [Lit.wf, IntKind.min, IntKind.max, IntKind.signed, IntKind.bits, Int.lt_add_one_iff] using h0
  have b1 : 0 ≤ a1 ∧ a1 ≤ 255 := by simpa [Lit.wf, IntKind.min, IntKind.max, IntKind.signed, IntKind.bits, Int.lt_add_one_iff] using h1
  obtain ⟨K, hK⟩ : ∃ K : Nat, 2000000 ≤ K := ⟨_, Nat.le_refl _⟩
  refine ⟨K + 1, ?_⟩
  have e1 : wrap64 a0 = a0 := wrap_small (by omega) (by omega)
  have e3 : 0 ≤ Int.tmod a0 20 ∧ Int.tmod a0 20 < 20 := ⟨Int.tmod_nonneg _ b0.1, Int.tmod_lt_of_pos _ (by omega)⟩
  have e2 : wrap64 (1048566 + Int.tmod a0 20) = 1048566 + Int.tmod a0 20 := wrap_small (by omega) (by omega)
  obtain ⟨n, hn⟩ : ∃ n : Nat, 1048566 + Int.tmod a0 20 = (n : Int) := ⟨(1048566 + Int.tmod a0 20).toNat, by omega⟩
  unfold emendationlaw01_UtfLong.f emendationlaw01_awake.f
  rw [Option.bind_some, if_pos rfl, e1, e2, hn, if_pos (by omega), Int.toNat_natCast, if_pos (by omega), Option.bind_some, List.length_replicate]
  exact Long_l0 a1 b1.1 (by omega) n (by omega) (by omega) n 0 (K + 1) (by omega) (by omega)
end Go.Proofs.YtmamjecpjookoaaDoor.Pure
