/- The law SpaninCodes, as a statement of bytes. -/
import Derived.Test.YtmfffpfenhgjbaaDoorPCodes
import Derived.Test.YtmfffpfenhgjbaaDoorX24
set_option linter.unusedSimpArgs false
set_option linter.unusedVariables false
namespace Go.Proofs.YtmfffpfenhgjbaaDoor.Pure
open Go.RowKit Go.Lib Go.Proofs.YtmfffpfenhgjbaaDoor.X Go.Proofs.YtmfffpfenhgjbaaDoor.G Go.Proofs.YtmfffpfenhgjbaaDoorW.PrintWords Go.Proofs.YtmfffpfenhgjbaaDoorW.PrintLast Go.Proofs.YtmfffpfenhgjbaaDoorW.PrintMore
def repB (n : Nat) : ByteArray := ⟨(List.replicate n 96).toArray⟩
theorem repB_L (n : Nat) : L (repB n) = List.replicate n 96 := L_mk _
theorem repB_size (n : Nat) : (repB n).size = n := by rw [L_size, repB_L, List.length_replicate]
theorem repB_succ (n : Nat) : repB n ++ (⟨#[96]⟩ : ByteArray) = repB (n + 1) := by
  apply L_ext
  rw [L_append, repB_L, repB_L, List.replicate_succ']
  rfl
theorem codes_l0 (s : ByteArray) (hs : s.size ≤ 100) : ∀ (d k i n : Nat) (o : Bool), i + d = s.size → 2 * d < k → n + d ≤ 200 →
    emendationlaw08_SpaninCodes.l0 k s o (repB n) (s.size : Int) (i : Int) = if ((L s).drop i).any (fun c => c.toNat == 10 || c.toNat == 13) = true then some true else emendationlaw08_SpaninCodes.l0 1 s (o && ((L s).drop i).all (fun c => c == 32)) (repB (n + ((L s).drop i).count 96)) (s.size : Int) (s.size : Int) := by
  intro d
  induction d with
  | zero =>
    intro k i n o h hk hn
    obtain ⟨k, rfl⟩ : ∃ m, k = m + 1 := ⟨k - 1, by omega⟩
    obtain rfl : i = s.size := by omega
    rw [List.drop_eq_nil_of_le (by rw [← L_size]; omega), List.all_nil, Bool.and_true]
    show _ = emendationlaw08_SpaninCodes.l0 1 s o (repB n) _ _
    have hn : ¬ ((s.size : Int) < (s.size : Int)) := by omega
    rw [emendationlaw08_SpaninCodes.l0, emendationlaw08_SpaninCodes.l0]
    simp only [if_neg hn]
  | succ d ih =>
    intro k i n o h hk hn
    obtain ⟨k, rfl⟩ : ∃ m, k = m + 2 := ⟨k - 2, by omega⟩
    have hl : i < (L s).length := by rw [← L_size]; omega
    have w1 : wrap64 ((i : Int) + 1) = ((i + 1 : Nat) : Int) := by rw [wrap_small (by omega) (by omega)]; omega
    have q0 : (0 : Int) ≤ (i : Int) := Int.natCast_nonneg _
    have q1 : (i : Int) < (s.size : Int) := by omega
    rw [emendationlaw08_SpaninCodes.l0, if_pos q1, if_pos q0, if_pos q1, bt_L s i hl, List.drop_eq_getElem_cons hl, List.any_cons, List.all_cons]
    generalize hc : (L s)[i] = c
    have hb : bt s (i : Int) = (c.toNat : Int) := by rw [bt_L s i hl, hc]
    by_cases h10 : c.toNat = 10
    · rw [if_pos (by omega), emendationlaw08_SpaninCodes.j2, if_pos rfl]
      simp [h10]
    · rw [if_neg (by omega)]
      by_cases h13 : c.toNat = 13
      · rw [emendationlaw08_SpaninCodes.j2, if_pos (by simp [h13])]
        simp [h13]
      · have hany : ((c.toNat == 10 || c.toNat == 13) || ((L s).drop (i + 1)).any (fun c => c.toNat == 10 || c.toNat == 13)) = ((L s).drop (i + 1)).any (fun c => c.toNat == 10 || c.toNat == 13) := by simp [h10, h13]
        rw [emendationlaw08_SpaninCodes.j2, if_neg (by simp only [beq_iff_eq]; omega), hany, hb, w1]
        have he : ((c.toNat : Int) == 32) = (c == 32) := by
          rw [Bool.eq_iff_iff, beq_iff_eq, beq_iff_eq]
          constructor
          · intro h; exact toNat_inj (Int.ofNat.inj h)
          · intro h; rw [h]; rfl
        have hz : (repB n).size + 1 ≤ 9223372036854775807 := by rw [repB_size]; omega
        rw [he]
        by_cases h96 : c.toNat = 96
        · have : c = 96 := toNat_inj h96
          subst this
          cases o with
          | true => rw [if_pos rfl, if_pos q0, if_pos q1, if_pos (by omega), if_pos hz, repB_succ, ih k (i + 1) (n + 1) _ (by omega) (by omega) (by omega), List.count_cons_self, Bool.true_and, Nat.add_assoc, Nat.add_comm 1]
          | false => rw [if_neg (by decide), if_pos q0, if_pos q1, if_pos (by omega), if_pos hz, repB_succ, ih k (i + 1) (n + 1) _ (by omega) (by omega) (by omega), List.count_cons_self, Bool.false_and, Nat.add_assoc, Nat.add_comm 1]; rfl
        · have hne : c ≠ 96 := fun e => h96 (by rw [e]; rfl)
          cases o with
          | true => rw [if_pos rfl, if_pos q0, if_pos q1, if_neg (by omega), ih k (i + 1) n _ (by omega) (by omega) (by omega), List.count_cons_of_ne (by simpa using hne), Bool.true_and]
          | false => rw [if_neg (by decide), if_pos q0, if_pos q1, if_neg (by omega), ih k (i + 1) n _ (by omega) (by omega) (by omega), List.count_cons_of_ne (by simpa using hne), Bool.false_and]; rfl
theorem SpaninCodes (a0 : ByteArray) (h0 : a0.size ≤ 140737488351232) : ∃ k, emendationlaw08_SpaninCodes.f k a0 = some true := by
  refine ⟨2000 + 1, ?_⟩
  unfold emendationlaw08_SpaninCodes.f
  rw [awake08 _ (by omega), Option.bind_some, if_pos rfl]
  by_cases h : (a0.size : Int) > 100
  · rw [if_pos h, emendationlaw08_SpaninCodes.j0, if_pos rfl, awake08 _ (by omega)]; rfl
  · rw [if_neg h, emendationlaw08_SpaninCodes.j0, L_toList]
    by_cases he : L a0 = []
    · rw [if_pos (by rw [he]; rfl), awake08 _ (by omega)]; rfl
    · have hs : a0.size ≤ 100 := by omega
      have hl := codes_l0 a0 hs a0.size 2000 0 1 true (by omega) (by omega) (by omega)
      rw [show ((0 : Nat) : Int) = 0 from rfl, List.drop_zero, Bool.true_and] at hl
      rw [if_neg (by simpa using he)]
      show emendationlaw08_SpaninCodes.l0 2000 a0 true (repB 1) _ _ = _
      rw [hl]
      by_cases hany : (L a0).any (fun c => c.toNat == 10 || c.toNat == 13) = true
      · rw [if_pos hany]
      · rw [if_neg hany]
        have h10 : ∀ c ∈ L a0, c.toNat ≠ 10 := by
          intro c hc e
          exact hany (List.any_eq_true.2 ⟨c, hc, by simp [e]⟩)
        have hcl : (L a0).count 96 ≤ 100 := Nat.le_trans List.count_le_length (by rw [← L_size]; exact hs)
        generalize hn : 1 + (L a0).count 96 = n
        have hsz := L_size a0
        have hX : L (repB n ++ (⟨#[32]⟩ : ByteArray) ++ a0 ++ (⟨#[32]⟩ : ByteArray) ++ repB n) = List.replicate n 96 ++ (32 :: (L a0 ++ [32])) ++ List.replicate n 96 ++ [] := by
          rw [L_append, L_append, L_append, L_append, repB_L]
          show List.replicate n 96 ++ [32] ++ L a0 ++ [32] ++ List.replicate n 96 = _
          simp
        have hXs : (repB n ++ (⟨#[32]⟩ : ByteArray) ++ a0 ++ (⟨#[32]⟩ : ByteArray) ++ repB n).size ≤ 1000 := by
          rw [L_size, hX]; simp only [List.length_append, List.length_cons, List.length_replicate, List.length_nil]; omega
        have hrun : runB n (32 :: (L a0 ++ [32])) = false := by
          cases hr : runB n (32 :: (L a0 ++ [32])) with
          | false => rfl
          | true =>
            have := run_count n (by omega) _ _ (Nat.le_refl _) hr
            have hc2 : (32 :: (L a0 ++ [32])).count 96 = (L a0).count 96 := by
              rw [List.count_cons_of_ne (by decide), List.count_append]
              have : ([32] : List UInt8).count 96 = 0 := by decide
              omega
            omega
        have hp : parseL (List.replicate n 96 ++ (32 :: (L a0 ++ [32])) ++ List.replicate n 96 ++ []) = [⟨2, ⟨(stripL (32 :: (L a0 ++ [32]))).toArray⟩, []⟩] := by
          unfold parseL
          rw [rd_code false false [] n (by omega) (32 :: (L a0 ++ [32])) [] ⟨32, _, rfl, by decide⟩ (by
            intro h
            have e1 := List.getLast?_eq_some_getLast h
            rw [show (32 :: (L a0 ++ [32])).getLast? = some 32 by rw [List.getLast?_cons, List.getLast?_append]; rfl] at e1
            rw [← Option.some.inj e1]; decide) (by
            intro c hc
            rcases List.mem_cons.1 hc with rfl | hc
            · decide
            · rcases List.mem_append.1 hc with hc | hc
              · exact h10 c hc
              · simp at hc; subst hc; decide) hrun (by simp), rdL_nil]
          rfl
        have z1 : (repB n).size + 1 ≤ 9223372036854775807 := by rw [repB_size]; omega
        have z2 : (repB n ++ (⟨#[32]⟩ : ByteArray)).size + a0.size ≤ 9223372036854775807 := by rw [size_append, repB_size]; show n + 1 + _ ≤ _; omega
        have z3 : ((repB n ++ (⟨#[32]⟩ : ByteArray)) ++ a0).size + 1 ≤ 9223372036854775807 := by rw [size_append, size_append, repB_size]; show n + 1 + _ + 1 ≤ _; omega
        have z4 : (((repB n ++ (⟨#[32]⟩ : ByteArray)) ++ a0) ++ (⟨#[32]⟩ : ByteArray)).size + (repB n).size ≤ 9223372036854775807 := by rw [size_append, size_append, size_append, repB_size]; show n + 1 + _ + 1 + n ≤ _; omega
        have z5 : 1 + a0.size ≤ 9223372036854775807 := by omega
        have z6 : ((⟨#[32]⟩ : ByteArray) ++ a0).size + 1 ≤ 9223372036854775807 := by rw [size_append]; show 1 + _ + 1 ≤ _; omega
        rw [emendationlaw08_SpaninCodes.l0, if_neg (by omega), if_pos z1, if_pos z2, if_pos z3, if_pos z4, Parse_eq _ (by omega), Option.bind_some, hX, hp]
        have q1 : (([⟨2, ⟨(stripL (32 :: (L a0 ++ [32]))).toArray⟩, []⟩] : List Sp).length : Int) = 1 := rfl
        have q2 : rd_T26 [⟨2, ⟨(stripL (32 :: (L a0 ++ [32]))).toArray⟩, []⟩] 0 = (⟨2, ⟨(stripL (32 :: (L a0 ++ [32]))).toArray⟩, []⟩ : Sp) := rfl
        have hlast : (32 :: (L a0 ++ [32])).getLast? = some 32 := by rw [List.getLast?_cons, List.getLast?_append]; rfl
        have hanys : (32 :: (L a0 ++ [32])).any (fun c => c != 32) = !(L a0).all (fun c => c == 32) := by
          rw [List.any_cons, List.any_append]
          have : (L a0).any (fun c => c != 32) = !(L a0).all (fun c => c == 32) := by
            induction (L a0) with
            | nil => rfl
            | cons c t ih => rw [List.any_cons, List.all_cons, ih, Bool.not_and]; rfl
          rw [this]
          simp
        cases ha : (L a0).all (fun c => c == 32) with
        | true =>
          have : stripL (32 :: (L a0 ++ [32])) = 32 :: (L a0 ++ [32]) := by
            unfold stripL
            rw [if_neg]
            rw [hanys, ha]
            rintro ⟨_, _, h⟩
            cases h
          rw [if_pos rfl, if_pos z5, if_pos z6, q1, q2, if_pos rfl, if_pos (by decide), if_pos rfl, L_toList, L_mk, L_toList, L_append, L_append, this]
          show some ((32 :: (L a0 ++ [32])) == ([32] ++ L a0 ++ [32])) = some true
          simp
        | false =>
          have : stripL (32 :: (L a0 ++ [32])) = L a0 := by
            unfold stripL
            rw [if_pos ⟨rfl, hlast, by rw [hanys, ha]; rfl⟩]
            simp
          rw [if_neg (by decide), q1, q2, if_pos rfl, if_pos (by decide), if_pos rfl, L_toList, L_mk, L_toList, this]
          simp
end Go.Proofs.YtmfffpfenhgjbaaDoor.Pure
