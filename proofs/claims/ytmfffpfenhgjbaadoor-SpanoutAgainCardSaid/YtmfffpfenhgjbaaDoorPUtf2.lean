/- utf.Check and the reference's Check: both say checkV of the bytes. -/
import Derived.Test.YtmfffpfenhgjbaaDoorPUtf1
import Derived.Test.YtmfffpfenhgjbaaDoorPCheck
import Derived.Test.YtmfffpfenhgjbaaDoorX4
import Derived.Lib.IndexLaws
import Derived.Lib.IndexAny
namespace Go.Proofs.YtmfffpfenhgjbaaDoor.Pure
open Go.RowKit Go.Lib Go.Proofs.YtmfffpfenhgjbaaDoor.X Go.Proofs.YtmfffpfenhgjbaaDoor.G Go.Proofs.YtmfffpfenhgjbaaDoorW.PrintWords Go.Proofs.YtmfffpfenhgjbaaDoorW.PrintLast Go.Proofs.YtmfffpfenhgjbaaDoorW.PrintMore

theorem nx_zero (l : List UInt8) (h : l ≠ []) : (nx l).2 = 0 ↔ ((decodeL l).1 = 65533 ∧ (decodeL l).2 = 1) := by
  unfold nx nxp
  rw [if_neg h]
  have hb := decodeL_bound l
  split
  · rename_i g; exact ⟨fun _ => g, fun _ => rfl⟩
  · rename_i g; exact ⟨fun e => by omega, fun e => absurd e g⟩
theorem nx_some (l : List UInt8) (h : (nx l).2 ≠ 0) : nx l = decodeL l := by
  unfold nx nxp at *
  split at h
  · exact absurd rfl h
  · rename_i g
    rw [if_neg g]
    split at h
    · exact absurd rfl h
    · rename_i g2; rw [if_neg g2]
theorem valid_nx (l : List UInt8) (h : l ≠ []) : validD l = if (nx l).2 = 0 then false else validD (l.drop (nx l).2) := by
  rw [validD_step l h]
  by_cases g : (nx l).2 = 0
  · rw [if_pos ((nx_zero l h).1 g), if_pos g]
  · rw [if_neg (fun e => g ((nx_zero l h).2 e)), if_neg g, nx_some l g]
section
variable (s : ByteArray) (hs : s.size ≤ 140737488351232)
include hs
theorem ref_l1 : ∀ (d i k : Nat), s.size ≤ i + d → d + 25 < k → emendationref01_Check.l1 k s (i : Int) = some (if validD ((L s).drop i) = true then 0 else 2) := by
  intro d
  induction d with
  | zero =>
    intro i k h hk
    obtain ⟨k, rfl⟩ : ∃ m, k = m + 1 := ⟨k - 1, by omega⟩
    simp only [emendationref01_Check.l1]
    rw [if_neg (by omega), List.drop_eq_nil_of_le (by rw [← L_size]; omega), validD_nil, if_pos rfl]
  | succ d ih =>
    intro i k h hk
    obtain ⟨k, rfl⟩ : ∃ m, k = m + 1 := ⟨k - 1, by omega⟩
    simp only [emendationref01_Check.l1]
    by_cases g : i < s.size
    · have hlen : ((L s).drop i).length = s.size - i := by rw [List.length_drop, ← L_size]
      have hne : (L s).drop i ≠ [] := fun e => by rw [e] at hlen; simp at hlen; omega
      have hb := nx_bound ((L s).drop i)
      have hle := nx_le ((L s).drop i)
      rw [if_pos (by omega), show k = (k - 20) + 20 from by omega, ref_Next_nat s hs, ← show k = (k - 20) + 20 from by omega, Option.bind_some, valid_nx _ hne]
      by_cases z : (nx ((L s).drop i)).2 = 0
      · rw [if_pos (by simp only; omega), if_pos z]
        rfl
      · rw [if_neg (by simp only; omega), if_neg z]
        simp only
        rw [wrap_small (by omega) (by omega), show (i : Int) + ((nx ((L s).drop i)).2 : Int) = ((i + (nx ((L s).drop i)).2 : Nat) : Int) from by omega, ih (i + (nx ((L s).drop i)).2) k (by omega) (by omega), List.drop_drop]
    · rw [if_neg (by omega), List.drop_eq_nil_of_le (by rw [← L_size]; omega), validD_nil, if_pos rfl]
theorem ref_l0 : ∀ (d i k : Nat), i + d = s.size → d + s.size + 30 < k → ((L s).take i).contains 0 = false → emendationref01_Check.l0 k s (i : Int) = some (if (L s).contains 0 = true then 3 else if validD (L s) = true then 0 else 2) := by
  intro d
  induction d with
  | zero =>
    intro i k h hk hz
    obtain ⟨k, rfl⟩ : ∃ m, k = m + 1 := ⟨k - 1, by omega⟩
    simp only [emendationref01_Check.l0]
    rw [List.take_of_length_le (by rw [← L_size]; omega)] at hz
    rw [if_neg (by omega), hz, if_neg (by decide)]
    have := ref_l1 s hs s.size 0 k (by omega) (by omega)
    rw [List.drop_zero] at this
    exact this
  | succ d ih =>
    intro i k h hk hz
    obtain ⟨k, rfl⟩ : ∃ m, k = m + 1 := ⟨k - 1, by omega⟩
    have hi : i < (L s).length := by rw [← L_size]; omega
    simp only [emendationref01_Check.l0]
    rw [if_pos (by omega), if_pos (by omega), bt_L s i hi]
    by_cases g : (((L s)[i]).toNat : Int) = 0
    · have hc : (L s).contains 0 = true := by
        rw [List.contains_iff_mem]
        have e : (L s)[i] = 0 := toNat_inj (by rw [show (L s)[i].toNat = 0 from by omega]; rfl)
        rw [← e]
        exact List.getElem_mem hi
      rw [if_pos g, if_pos hc]
    · rw [if_neg g, wrap_small (by omega) (by omega), show (i : Int) + 1 = ((i + 1 : Nat) : Int) from by omega]
      refine ih (i + 1) k (by omega) (by omega) ?_
      rw [← List.take_append_getElem hi]
      have e : ¬ (L s)[i] = 0 := fun e => g (by rw [e]; rfl)
      have e2 : ¬ (0 : UInt8) = (L s)[i] := fun h => e h.symm
      rw [List.contains_eq_mem, decide_eq_false_iff_not] at hz ⊢
      simp only [List.mem_append, List.mem_singleton]
      exact fun h => h.elim hz e2
theorem ref_Check_eq (k : Nat) (hk : 2 * s.size + 40 < k) : emendationref01_Check.f k s = some (checkV (L s)) := by
  unfold emendationref01_Check.f checkV
  rw [← L_size]
  by_cases h : s.size > 1048576
  · rw [if_pos (by omega), if_pos h]
  · rw [if_neg (by omega), if_neg h]
    exact ref_l0 s hs s.size 0 k (by omega) (by omega) rfl
end
end Go.Proofs.YtmfffpfenhgjbaaDoor.Pure
