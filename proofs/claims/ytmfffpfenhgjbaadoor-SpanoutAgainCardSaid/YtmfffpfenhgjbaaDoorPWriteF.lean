/- What the printed helpers of writing answer, in plain words: Escape, padded, the fence. -/
import Derived.Test.YtmfffpfenhgjbaaDoorPNormAll
import Derived.Test.YtmfffpfenhgjbaaDoorPReadAll
import Derived.Test.YtmfffpfenhgjbaaDoorX8
set_option linter.unusedVariables false
set_option linter.unusedSimpArgs false
namespace Go.Proofs.YtmfffpfenhgjbaaDoor.Pure
open Go.RowKit Go.Lib Go.Proofs.YtmfffpfenhgjbaaDoor.X Go.Proofs.YtmfffpfenhgjbaaDoor.G Go.Proofs.YtmfffpfenhgjbaaDoorW.PrintWords Go.Proofs.YtmfffpfenhgjbaaDoorW.PrintLast Go.Proofs.YtmfffpfenhgjbaaDoorW.PrintMore
theorem escW_le : ∀ l : List UInt8, (escW l).length ≤ 2 * l.length
  | [] => Nat.le_refl _
  | c :: t => by
    have := escW_le t
    rw [escW]
    split <;> simp only [List.length_cons] <;> omega
theorem le_escW : ∀ l : List UInt8, l.length ≤ (escW l).length
  | [] => Nat.le_refl _
  | c :: t => by
    have := le_escW t
    rw [escW]
    split <;> simp only [List.length_cons] <;> omega
theorem meant_index (b : UInt8) : (decide (Lib.indexByte ([92, 42, 91, 93, 35, 62, 45, 96] : List UInt8) b ≥ 0)) = meantB b := by
  have h : ∀ n : Fin 256, (decide (Lib.indexByte ([92, 42, 91, 93, 35, 62, 45, 96] : List UInt8) (UInt8.ofNat n.val) ≥ 0)) = meantB (UInt8.ofNat n.val) := by decide +kernel
  have := h ⟨b.toNat, b.toNat_lt⟩
  simpa using this
/-- Bytes as numbers. -/
def numsB (l : List UInt8) : List Int := l.map fun b => (b.toNat : Int)
theorem strNums (l : List UInt8) : strOfNums (numsB l) = ⟨l.toArray⟩ := by
  unfold strOfNums numsB
  rw [List.map_map]
  congr 2
  refine (List.map_congr_left (g := id) (fun b _ => ?_)).trans (List.map_id _)
  simp
theorem escape_l0 (s : ByteArray) (hs : s.size ≤ 1000000) : ∀ (d k i : Nat) (a : List UInt8), i + d = s.size → d < k → a.length ≤ 2 * i →
    spanout_Escape.l0 k (numsB a) (Go.Proofs.YtmfffpfenhgjbaaDoorW.PrintWords.bytesOf s) (s.size : Int) (i : Int) = some ⟨(a ++ escW ((L s).drop i)).toArray⟩ := by
  intro d
  induction d with
  | zero =>
    intro k i a h hk ha
    obtain ⟨k, rfl⟩ : ∃ m, k = m + 1 := ⟨k - 1, by omega⟩
    rw [spanout_Escape.l0, if_neg (by omega), List.drop_eq_nil_of_le (by rw [← L_size]; omega), strNums, escW, List.append_nil]
  | succ d ih =>
    intro k i a h hk ha
    obtain ⟨k, rfl⟩ : ∃ m, k = m + 1 := ⟨k - 1, by omega⟩
    have hl : i < (L s).length := by rw [← L_size]; omega
    have w1 : wrap64 ((i : Int) + 1) = ((i + 1 : Nat) : Int) := by rw [wrap_small (by omega) (by omega)]; omega
    have hr := rd_bytes (L s) s rfl i ((L s)[i]) (List.getElem?_eq_getElem hl)
    have hx : ((((L s)[i]).toNat : Int).toNat).toUInt8 = (L s)[i] := by rw [Int.toNat_natCast]; simp
    have hm := meant_index ((L s)[i])
    have h92 : numsB a ++ [92] = numsB (a ++ [92]) := by unfold numsB; rw [List.map_append]; rfl
    have hb : ∀ a : List UInt8, numsB a ++ [(((L s)[i]).toNat : Int)] = numsB (a ++ [(L s)[i]]) := by intro a; unfold numsB; rw [List.map_append]; rfl
    have hz : ∀ a : List UInt8, (numsB a).length = a.length := fun a => List.length_map _
    rw [spanout_Escape.l0, if_pos (by omega), if_pos (by omega), if_pos (by rw [Go.Proofs.YtmfffpfenhgjbaaDoorW.PrintWords.bytesOf_length]; omega), w1, hr]
    unfold strings_IndexByte.f
    rw [Option.bind_some, hx, List.drop_eq_getElem_cons hl, escW]
    cases hmb : meantB (L s)[i] with
    | true =>
      rw [hmb] at hm
      rw [if_pos (of_decide_eq_true hm), if_pos (by rw [hz]; omega), Option.bind_some, h92, if_pos (by rw [hz, List.length_append, List.length_singleton]; omega), hb, if_pos rfl, ih k (i + 1) _ (by omega) (by omega) (by rw [List.length_append, List.length_append, List.length_singleton, List.length_singleton]; omega)]
      simp
    | false =>
      rw [hmb] at hm
      rw [if_neg (of_decide_eq_false hm), if_pos (by rw [hz]; omega), hb, if_neg (by decide), ih k (i + 1) _ (by omega) (by omega) (by rw [List.length_append, List.length_singleton]; omega)]
      simp
theorem Escape_eq (s : ByteArray) (k : Nat) (hs : s.size ≤ 1000000) (hk : s.size < k) : spanout_Escape.f k s = some ⟨(escW (L s)).toArray⟩ := by
  have h := escape_l0 s hs s.size k 0 [] (by omega) hk (Nat.zero_le _)
  rw [List.drop_zero, List.nil_append] at h
  unfold spanout_Escape.f
  rw [if_pos (by omega), if_pos (by omega), if_pos (by omega), Option.bind_some, Go.Proofs.YtmfffpfenhgjbaaDoorW.PrintWords.bytesOf_length]
  exact h
theorem prefix_one (l : List UInt8) (c : UInt8) : Lib.hasPrefix l [c] = true ↔ l.head? = some c := by
  unfold Lib.hasPrefix
  cases l with
  | nil => simp
  | cons a t => simp [List.isPrefixOf]; exact eq_comm
theorem suffix_one (l : List UInt8) (c : UInt8) : Lib.hasSuffix l [c] = true ↔ l.getLast? = some c := by
  unfold Lib.hasSuffix
  rw [List.isSuffixOf_iff_suffix]
  constructor
  · rintro ⟨t, rfl⟩; simp
  · intro h
    have hne : l ≠ [] := by rintro rfl; cases h
    refine ⟨l.dropLast, ?_⟩
    rw [List.getLast?_eq_some_getLast hne] at h
    have h2 := Option.some.inj h
    have h3 := List.dropLast_concat_getLast hne
    rw [h2] at h3
    exact h3
theorem padded_eq (s : ByteArray) (k : Nat) (hs : s.size ≤ 1000000) : spanout_padded.f (k + 1) s = some ⟨(padL (L s)).toArray⟩ := by
  have e : s.data.toList = L s := rfl
  have hp : (some (((⟨#[32]⟩ : ByteArray) ++ s) ++ (⟨#[32]⟩ : ByteArray)) : Option ByteArray) = some ⟨(32 :: (L s ++ [32])).toArray⟩ := by
    congr 1
  have z1 : 1 + s.size ≤ 9223372036854775807 := by omega
  have z2 : ((⟨#[32]⟩ : ByteArray) ++ s).size + 1 ≤ 9223372036854775807 := by rw [size_append]; show 1 + s.size + 1 ≤ _; omega
  have z3 : s.size ≤ 9223372036854775807 := by omega
  have ht : strings_Trim.f s ⟨#[32]⟩ = some ⟨(Lib.trimS (L s) [32]).toArray⟩ := by
    unfold strings_Trim.f
    exact if_pos ⟨by omega, by decide, by decide⟩
  unfold spanout_padded.f
  simp only [spanout_padded.j0, strings_HasPrefix.f, strings_HasSuffix.f, if_pos z3, if_pos z1, if_pos z2, ht, Option.bind_some, e, hp, L_toList, L_mk]
  have q1 := prefix_one (L s) 96
  have q2 := suffix_one (L s) 96
  have q3 := prefix_one (L s) 32
  have q4 := suffix_one (L s) 32
  have q5 := trim_empty (L s)
  have n1 : (L s).head? = some 96 → L s ≠ [] := by rintro h h2; rw [h2] at h; cases h
  have n2 : (L s).getLast? = some 96 → L s ≠ [] := by rintro h h2; rw [h2] at h; cases h
  have n3 : (L s).head? = some 32 → L s ≠ [] := by rintro h h2; rw [h2] at h; cases h
  change (Lib.hasPrefix (L s) [96] = true ↔ _) at q1
  have hN : ¬ (L s ≠ [] ∧ ((L s).head? = some 96 ∨ (L s).getLast? = some 96 ∨ ((L s).any (fun c => c != 32) = true ∧ (L s).head? = some 32 ∧ (L s).getLast? = some 32))) → padL (L s) = L s := fun h => if_neg h
  have hY : (L s ≠ [] ∧ ((L s).head? = some 96 ∨ (L s).getLast? = some 96 ∨ ((L s).any (fun c => c != 32) = true ∧ (L s).head? = some 32 ∧ (L s).getLast? = some 32))) → padL (L s) = 32 :: (L s ++ [32]) := fun h => if_pos h
  generalize Lib.trimS (L s) [32] = tr at *
  cases a1 : Lib.hasPrefix (L s) [96] with
  | true =>
    have h1 := q1.1 a1
    rw [hY ⟨n1 h1, Or.inl h1⟩]
    cases Lib.hasPrefix (L s) [32] <;> cases Lib.hasSuffix (L s) [32] <;> rfl
  | false =>
    have h1 : ¬ (L s).head? = some 96 := fun h => by rw [q1.2 h] at a1; cases a1
    cases a2 : Lib.hasSuffix (L s) [96] with
    | true =>
      have h2 := q2.1 a2
      rw [hY ⟨n2 h2, Or.inr (Or.inl h2)⟩]
      cases Lib.hasPrefix (L s) [32] <;> cases Lib.hasSuffix (L s) [32] <;> rfl
    | false =>
      have h2 : ¬ (L s).getLast? = some 96 := fun h => by rw [q2.2 h] at a2; cases a2
      cases a3 : Lib.hasPrefix (L s) [32] with
      | false =>
        have h3 : ¬ (L s).head? = some 32 := fun h => by rw [q3.2 h] at a3; cases a3
        rw [hN (fun h => by rcases h.2 with h | h | h; exact h1 h; exact h2 h; exact h3 h.2.1)]
        rw [L_mk']; rfl
      | true =>
        have h3 := q3.1 a3
        cases a4 : Lib.hasSuffix (L s) [32] with
        | false =>
          have h4 : ¬ (L s).getLast? = some 32 := fun h => by rw [q4.2 h] at a4; cases a4
          rw [hN (fun h => by rcases h.2 with h | h | h; exact h1 h; exact h2 h; exact h4 h.2.2)]
          rw [L_mk']; rfl
        | true =>
          have h4 := q4.1 a4
          by_cases h5 : tr = []
          · have h6 := q5.1 h5
            rw [hN (fun h => by rcases h.2 with h | h | h; exact h1 h; exact h2 h; rw [h6] at h; cases h.1)]
            rw [L_mk']
            simp [h5]
          · have h6 : (L s).any (fun c => c != 32) = true := by
              cases h : (L s).any (fun c => c != 32) with
              | true => rfl
              | false => exact absurd (q5.2 h) h5
            rw [hY ⟨n3 h3, Or.inr (Or.inr ⟨h6, h3, h4⟩)⟩]
            simp [h5]
theorem repeat_tick : ∀ n : Nat, Lib.repeatL [96] n = List.replicate n 96
  | 0 => rfl
  | n + 1 => by rw [Lib.repeatL, repeat_tick n]; rfl
end Go.Proofs.YtmfffpfenhgjbaaDoor.Pure
