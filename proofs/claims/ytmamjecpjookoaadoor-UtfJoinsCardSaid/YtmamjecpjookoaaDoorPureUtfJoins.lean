/- The law UtfJoins, as a statement of lists of bytes: texts behind one another are a text; a text cut within a character isn't. -/
import Derived.Test.YtmamjecpjookoaaDoorPUtfA
import Derived.Test.YtmamjecpjookoaaDoorX7
namespace Go.Proofs.YtmamjecpjookoaaDoor.Pure
open Go.RowKit Go.Lib Go.Proofs.YtmamjecpjookoaaDoor.X Go.Proofs.YtmamjecpjookoaaDoor.G Go.Proofs.YtmamjecpjookoaaDoorW.PrintWords Go.Proofs.YtmamjecpjookoaaDoorW.PrintLast Go.Proofs.YtmamjecpjookoaaDoorW.PrintMore
theorem checkV_zero (l : List UInt8) : checkV l = 0 ↔ l.length ≤ 1048576 ∧ l.contains 0 = false ∧ validD l = true := by
  unfold checkV
  by_cases h1 : l.length > 1048576
  · rw [if_pos h1]; exact ⟨fun h => (by cases h), fun h => (by omega)⟩
  · rw [if_neg h1]
    by_cases h2 : l.contains 0 = true
    · rw [if_pos h2]; exact ⟨fun h => (by cases h), fun h => (by rw [h.2.1] at h2; cases h2)⟩
    · rw [if_neg h2]
      by_cases h3 : validD l = true
      · rw [if_pos h3]; exact ⟨fun _ => ⟨by omega, by simpa using h2, h3⟩, fun _ => rfl⟩
      · rw [if_neg h3]; exact ⟨fun h => (by cases h), fun h => absurd h.2.2 h3⟩
theorem check_part (l m : List UInt8) (h : checkV l = 0) (hs : ∀ b ∈ m, b ∈ l) (hl : m.length ≤ l.length) : (checkV m == 0) = validD m := by
  obtain ⟨h1, h2, _⟩ := (checkV_zero l).1 h
  have hc : m.contains 0 = false := by
    cases e : m.contains 0 with
    | false => rfl
    | true =>
      have := hs 0 (by simpa using e)
      have : l.contains 0 = true := by simpa using this
      rw [h2] at this; cases this
  cases e : validD m with
  | true => exact beq_iff_eq.2 ((checkV_zero m).2 ⟨by omega, hc, e⟩)
  | false => exact beq_eq_false_iff_ne.2 (fun q => by rw [((checkV_zero m).1 q).2.2] at e; cases e)
section
variable (s : ByteArray) (hs : s.size ≤ 5000) (hv : checkV (L s) = 0) (K : Nat) (hK : K ≤ s.size)
include hs hv hK
theorem joins_end (i k : Nat) (hi : K ≤ i) (h1 : validD ((L s).take K) = (i == K)) (h2 : validD ((L s).drop K) = (i == K)) : emendationlaw01_UtfJoins.l0 (k + 1) s (K : Int) (i : Int) = some true := by
  have e1 : L (s.extract 0 K) = (L s).take K := L_upto s K
  have e2 : L (s.extract K s.size) = (L s).drop K := L_from s K
  have z1 : (s.extract 0 K).size ≤ s.size := by rw [L_size, e1, List.length_take, ← L_size]; omega
  have z2 : (s.extract K s.size).size ≤ s.size := by rw [L_size, e2, List.length_drop, ← L_size]; omega
  have c1 := check_part (L s) ((L s).take K) hv (fun b hb => List.mem_of_mem_take hb) (by rw [List.length_take]; omega)
  have c2 := check_part (L s) ((L s).drop K) hv (fun b hb => List.mem_of_mem_drop hb) (by rw [List.length_drop]; omega)
  have hik : ((i : Int) == (K : Int)) = (i == K) := by
    by_cases e : i = K
    · subst e; simp
    · rw [beq_eq_false_iff_ne.2 e, beq_eq_false_iff_ne.2 (by omega)]
  simp only [emendationlaw01_UtfJoins.l0]
  rw [if_neg (by omega), if_pos (by omega), utf_Check_eq s (by omega), Option.bind_some, if_pos hv, if_pos (by omega), if_pos (by omega)]
  simp only [Int.toNat_natCast]
  rw [if_pos (by omega), utf_Check_eq _ (by omega), Option.bind_some, e1, c1, h1, hik, if_pos (by simp), if_pos (by omega), utf_Check_eq _ (by omega), Option.bind_some, e2, c2, h2]
  simp
theorem joins_l0 : ∀ (d i k : Nat), s.size = i + d → d + 5 < k → i ≤ K → validD ((L s).take i) = true → validD ((L s).drop i) = true → emendationlaw01_UtfJoins.l0 k s (K : Int) (i : Int) = some true := by
  intro d
  induction d using Nat.strongRecOn with
  | _ d ih =>
    intro i k h hk hi h1 h2
    obtain ⟨k, rfl⟩ : ∃ m, k = m + 1 := ⟨k - 1, by omega⟩
    by_cases g : i = K
    · subst g
      exact joins_end s hs hv i hK i k (Nat.le_refl _) (by rw [h1]; simp) (by rw [h2]; simp)
    have hlen : ((L s).drop i).length = s.size - i := by rw [List.length_drop, ← L_size]
    have hne : (L s).drop i ≠ [] := fun e => by rw [e] at hlen; simp at hlen; omega
    have hb := nx_bound ((L s).drop i)
    have hle := nx_le ((L s).drop i)
    have h2' := h2
    rw [valid_nx _ hne] at h2'
    have z : (nx ((L s).drop i)).2 ≠ 0 := fun z => by rw [if_pos z] at h2'; cases h2'
    rw [if_neg z, List.drop_drop] at h2'
    have h1' : validD ((L s).take (i + (nx ((L s).drop i)).2)) = true := by
      rw [List.take_add, valid_append _ _ h1]
      exact valid_alone _ z
    have step : emendationlaw01_UtfJoins.l0 (k + 1) s (K : Int) (i : Int) = emendationlaw01_UtfJoins.l0 k s (K : Int) ((i + (nx ((L s).drop i)).2 : Nat) : Int) := by
      simp only [emendationlaw01_UtfJoins.l0]
      rw [if_pos (by omega), show k = (k - 1) + 1 from by omega, utf_Next_nat s i _ (by omega), ← show k = (k - 1) + 1 from by omega, Option.bind_some, if_neg (by simp only; omega)]
      simp only
      rw [wrap_small (by omega) (by omega)]
      rfl
    rw [step]
    by_cases q : i + (nx ((L s).drop i)).2 ≤ K
    · exact ih (d - (nx ((L s).drop i)).2) (by omega) _ k (by omega) (by omega) q h1' h2'
    · obtain ⟨k, rfl⟩ : ∃ m, k = m + 1 := ⟨k - 1, by omega⟩
      have c := nx_cut ((L s).drop i) (K - i) (by omega) (by omega)
      have ne : (i + (nx ((L s).drop i)).2 == K) = false := beq_eq_false_iff_ne.2 (by omega)
      refine joins_end s hs hv K hK _ k (by omega) ?_ ?_
      · rw [ne, show K = i + (K - i) from by omega, List.take_add, valid_append _ _ h1]
        exact c.1
      · rw [ne, show K = i + (K - i) from by omega, ← List.drop_drop]
        exact c.2
end
theorem UtfJoins (a0 a1 : ByteArray) (a2 : Int) (_h0 : a0.size ≤ 140737488351232) (_h1 : a1.size ≤ 140737488351232) (h2 : (Lit.int .u64 a2).wf = true) : ∃ k, emendationlaw01_UtfJoins.f k a0 a1 a2 = some true := by
  have h0 : 0 ≤ a2 := by
    have : 0 ≤ a2 ∧ a2 ≤ 18446744073709551615 := by simpa [Lit.wf, IntKind.min, IntKind.max, IntKind.signed, IntKind.bits, Int.lt_add_one_iff] using h2
    exact this.1
  refine ⟨(a0.size + a1.size + 20) + 1, ?_⟩
  have jt : emendationlaw01_UtfJoins.j0 ((a0.size + a1.size + 20) + 1) a0 a1 a2 true = some true := by
    simp only [emendationlaw01_UtfJoins.j0]; rfl
  unfold emendationlaw01_UtfJoins.f emendationlaw01_awake.f
  rw [Option.bind_some, if_pos rfl, wrap_small (by omega) (by omega), jt]
  by_cases h : (a0.size : Int) + (a1.size : Int) > 5000
  · rw [if_pos h]
  rw [if_neg h, if_pos (by omega), utf_Check_eq a0 (by omega), Option.bind_some]
  by_cases e0 : checkV (L a0) = 0
  · rw [if_pos e0, if_pos (by omega), utf_Check_eq a1 (by omega), Option.bind_some]
    by_cases e1 : checkV (L a1) = 0
    · have hsz : (a0 ++ a1).size = a0.size + a1.size := size_append _ _
      have hLe : L (a0 ++ a1) = L a0 ++ L a1 := L_append _ _
      rw [e1, show ((0 : Int) != 0) = false from rfl]
      simp only [emendationlaw01_UtfJoins.j0]
      rw [if_neg (by decide), if_pos (by omega)]
      rw [wrap_small (x := ((a0 ++ a1).size : Int) + 1) (by omega) (by omega)]
      have hu : IntKind.u64.wrap (((a0 ++ a1).size : Int) + 1) = ((a0 ++ a1).size : Int) + 1 := by
        simp [IntKind.wrap, IntKind.bits, IntKind.signed]
        omega
      rw [hu, if_neg (by omega)]
      have hm : Int.tmod a2 (((a0 ++ a1).size : Int) + 1) = a2 % (((a0 ++ a1).size : Int) + 1) := Int.tmod_eq_emod_of_nonneg h0
      have hm0 := Int.emod_nonneg a2 (show ((a0 ++ a1).size : Int) + 1 ≠ 0 by omega)
      have hm1 := Int.emod_lt_of_pos a2 (show 0 < ((a0 ++ a1).size : Int) + 1 by omega)
      rw [hm, wrap_small (by omega) (by omega)]
      obtain ⟨K, hKe⟩ := Int.eq_ofNat_of_zero_le hm0
      rw [hKe] at hm1 ⊢
      obtain ⟨l0, z0, v0⟩ := (checkV_zero _).1 e0
      obtain ⟨l1, z1, v1⟩ := (checkV_zero _).1 e1
      have hv : checkV (L (a0 ++ a1)) = 0 := by
        rw [hLe]
        refine (checkV_zero _).2 ⟨?_, ?_, ?_⟩
        · rw [List.length_append, ← L_size, ← L_size]; omega
        · simp only [List.contains_append, z0, z1, Bool.or_false]
        · rw [valid_append _ _ v0]; exact v1
      exact joins_l0 (a0 ++ a1) (by omega) hv K (by omega) (a0 ++ a1).size 0 _ (by omega) (by omega) (by omega) rfl (by rw [List.drop_zero]; exact ((checkV_zero _).1 hv).2.2)
    · rw [show (checkV (L a1) != 0) = true from bne_iff_ne.2 e1, jt]
  · rw [if_neg e0]
end Go.Proofs.YtmamjecpjookoaaDoor.Pure
