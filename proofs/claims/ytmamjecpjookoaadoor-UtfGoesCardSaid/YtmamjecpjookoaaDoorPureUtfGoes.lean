/- The law UtfGoes, as a statement of lists of bytes: gone through by Next, the characters written anew are the text. -/
import Derived.Test.YtmamjecpjookoaaDoorPUtf2
namespace Go.Proofs.YtmamjecpjookoaaDoor.Pure
open Go.RowKit Go.Lib Go.Proofs.YtmamjecpjookoaaDoor.X Go.Proofs.YtmamjecpjookoaaDoor.G Go.Proofs.YtmamjecpjookoaaDoorW.PrintWords Go.Proofs.YtmamjecpjookoaaDoorW.PrintLast Go.Proofs.YtmamjecpjookoaaDoorW.PrintMore
theorem checkV_valid (l : List UInt8) (h : validD l = true) (hl : l.length ≤ 1048576) : checkV l = 0 ∨ checkV l = 3 := by
  unfold checkV
  rw [if_neg (by omega), if_pos h]
  split
  · exact .inr rfl
  · exact .inl rfl
theorem checkV_invalid (l : List UInt8) (h : validD l = false) : checkV l ≠ 0 := by
  unfold checkV
  rw [h]
  repeat' split
  all_goals first | decide | simp_all
theorem wrap32_small {x : Int} (h0 : 0 ≤ x) (h1 : x ≤ 1114111) : wrap32 x = x := by
  unfold wrap32; omega
theorem encode_size (c : Int) : (Utf8.encode c).size ≤ 4 := by
  unfold Utf8.encode
  simp only
  repeat' split
  all_goals first | (show 1 ≤ 4; omega) | (show 2 ≤ 4; omega) | (show 3 ≤ 4; omega) | (show 4 ≤ 4; omega)
theorem encode_rune (c : Nat) : L (Utf8.encode (c : Int)) = encodeRune (c : Int) := by
  have a1 : (192 + (c : Int) / 64).toNat = 0xC0 + c / 64 := by omega
  have a2 : (128 + (c : Int) % 64).toNat = 0x80 + c % 64 := by omega
  have a3 : (224 + (c : Int) / 4096).toNat = 0xE0 + c / 4096 := by omega
  have a4 : (128 + (c : Int) / 64 % 64).toNat = 0x80 + c / 64 % 64 := by omega
  have a5 : (240 + (c : Int) / 262144).toNat = 0xF0 + c / 262144 := by omega
  have a6 : (128 + (c : Int) / 4096 % 64).toNat = 0x80 + c / 4096 % 64 := by omega
  unfold Utf8.encode encodeRune
  by_cases hv : Utf8.valid (c : Int) = true
  · have hv' : c < 55296 ∨ (57344 ≤ c ∧ c ≤ 1114111) := by
      unfold Utf8.valid at hv
      simp only [Bool.or_eq_true, Bool.and_eq_true, decide_eq_true_eq] at hv
      omega
    simp only [hv, if_true, Int.toNat_natCast]
    by_cases c1 : c < 128
    · rw [if_pos (by omega), encodeRuneZ_one (by omega) (by omega)]
      simp [L]
    rw [if_neg (by omega)]
    by_cases c2 : c < 2048
    · rw [if_pos (by omega), encodeRuneZ_two (by omega) (by omega), List.map_cons, List.map_cons, a1, a2]
      rfl
    rw [if_neg (by omega)]
    by_cases c3 : c < 65536
    · rw [if_pos (by omega), encodeRuneZ_three (by omega), List.map_cons, List.map_cons, List.map_cons, a3, a4, a2]
      rfl
    · rw [if_neg (by omega), encodeRuneZ_four (by omega) (by omega), List.map_cons, List.map_cons, List.map_cons, List.map_cons, a5, a6, a4, a2]
      rfl
  · have hv' : (55296 ≤ c ∧ c ≤ 57343) ∨ 1114111 < c := by
      unfold Utf8.valid at hv
      simp only [Bool.or_eq_true, Bool.and_eq_true, decide_eq_true_eq] at hv
      omega
    rw [encodeRuneZ_bad (by omega), if_neg hv]
    rfl
theorem encode_nx (l : List UInt8) (hne : l ≠ []) (h : (nx l).2 ≠ 0) : L (Utf8.encode ((nx l).1 : Int)) = l.take (nx l).2 := by
  rw [nx_some l h, encode_rune]
  exact encode_decode l hne (fun e => h ((nx_zero l hne).2 e))
section
variable (s : ByteArray) (hs : s.size ≤ 5000)
include hs
theorem goes : ∀ (d i k : Nat) (o : ByteArray), s.size = i + d → d + 5 < k → L o = (L s).take i → validD (L s) = validD ((L s).drop i) → emendationlaw01_UtfGoes.l0 k s (i : Int) o = some true := by
  intro d
  induction d using Nat.strongRecOn with
  | _ d ih =>
    intro i k o h hk ho hv
    obtain ⟨k, rfl⟩ : ∃ m, k = m + 1 := ⟨k - 1, by omega⟩
    have hlen : ((L s).drop i).length = s.size - i := by rw [List.length_drop, ← L_size]
    have hL : (L s).length = s.size := (L_size s).symm
    simp only [emendationlaw01_UtfGoes.l0]
    by_cases g : d = 0
    · subst g
      rw [if_neg (by omega), if_pos (by omega), utf_Check_eq s (by omega), Option.bind_some]
      rw [List.take_of_length_le (by omega)] at ho
      rw [List.drop_eq_nil_of_le (by omega), validD_nil] at hv
      rw [if_pos (by rw [L_toList, L_toList]; exact ho)]
      rcases checkV_valid (L s) hv (by omega) with e | e
      · rw [e, if_pos rfl]
      · rw [e, if_neg (by decide)]; rfl
    · have hne : (L s).drop i ≠ [] := fun e => by rw [e] at hlen; simp at hlen; omega
      have hb := nx_bound ((L s).drop i)
      have hle := nx_le ((L s).drop i)
      rw [if_pos (by omega), show k = (k - 1) + 1 from by omega, utf_Next_nat s i _ (by omega), ← show k = (k - 1) + 1 from by omega, Option.bind_some]
      rw [valid_nx _ hne] at hv
      by_cases z : (nx ((L s).drop i)).2 = 0
      · rw [if_pos z] at hv
        have hc := checkV_invalid (L s) hv
        rw [if_pos (by simp only; omega), if_pos (by omega), utf_Check_eq s (by omega), Option.bind_some]
        congr 1
        simpa using hc
      · rw [if_neg z] at hv
        rw [if_neg (by simp only; omega)]
        simp only
        have hes := encode_size (((nx ((L s).drop i)).1 : Nat) : Int)
        have hos : o.size ≤ 5000 := by rw [L_size, ho, List.length_take]; omega
        rw [wrap32_small (by omega) (by omega), if_pos (by omega), wrap_small (by omega) (by omega), show (i : Int) + ((nx ((L s).drop i)).2 : Int) = ((i + (nx ((L s).drop i)).2 : Nat) : Int) from by omega]
        refine ih (d - (nx ((L s).drop i)).2) (by omega) (i + (nx ((L s).drop i)).2) k _ (by omega) (by omega) ?_ ?_
        · rw [L_append, ho, encode_nx _ hne z, List.take_add]
        · rw [hv, List.drop_drop]
end
theorem UtfGoes (a0 : ByteArray) (_h0 : a0.size ≤ 140737488351232) : ∃ k, emendationlaw01_UtfGoes.f k a0 = some true := by
  refine ⟨(a0.size + 6) + 1, ?_⟩
  unfold emendationlaw01_UtfGoes.f emendationlaw01_awake.f
  rw [Option.bind_some, if_pos rfl]
  simp only [emendationlaw01_UtfGoes.j0]
  unfold emendationlaw01_awake.f
  by_cases h : (a0.size : Int) > 5000
  · rw [if_pos (decide_eq_true h)]; rfl
  · rw [if_neg (by simpa using h)]
    exact goes a0 (by omega) a0.size 0 _ (⟨#[]⟩ : ByteArray) (by omega) (by omega) rfl rfl
end Go.Proofs.YtmamjecpjookoaaDoor.Pure
