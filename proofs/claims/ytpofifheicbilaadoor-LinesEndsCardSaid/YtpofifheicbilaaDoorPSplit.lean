/- lines.Trim, Split, Join and the reference's, as functions of lists of bytes. -/
import Derived.Test.YtpofifheicbilaaDoorPLines
namespace Go.Proofs.YtpofifheicbilaaDoor.Pure
open Go.RowKit Go.Proofs.YtpofifheicbilaaDoor.X Go.Proofs.YtpofifheicbilaaDoor.G Go.Proofs.YtpofifheicbilaaDoorW.PrintWords Go.Proofs.YtpofifheicbilaaDoorW.PrintLast Go.Proofs.YtpofifheicbilaaDoorW.PrintMore

/-! ### Trim -/
def gapB (b : UInt8) : Bool := ([32, 9] : List UInt8).contains b
theorem gapB_iff (b : UInt8) : gapB b = true ↔ (b.toNat : Int) = 32 ∨ (b.toNat : Int) = 9 := by
  unfold gapB
  simp only [List.contains_cons, List.contains_nil, Bool.or_false, Bool.or_eq_true, beq_iff_eq]
  constructor
  · rintro (h | h)
    · subst h; exact .inl rfl
    · subst h; exact .inr rfl
  · rintro (h | h)
    · exact .inl (toNat_inj (by have : b.toNat = 32 := by omega
                                rw [this]; rfl))
    · exact .inr (toNat_inj (by have : b.toNat = 9 := by omega
                                rw [this]; rfl))
def rdrop (p : UInt8 → Bool) (l : List UInt8) : List UInt8 := (l.reverse.dropWhile p).reverse
theorem rdrop_nil (p : UInt8 → Bool) : rdrop p [] = [] := rfl
theorem rdrop_cons (p : UInt8 → Bool) (b : UInt8) (t : List UInt8) : rdrop p (b :: t) = if rdrop p t = [] then (if p b = true then [] else [b]) else b :: rdrop p t := by
  unfold rdrop
  rw [List.reverse_cons, List.dropWhile_append]
  by_cases h : (t.reverse.dropWhile p).isEmpty = true
  · have h' : t.reverse.dropWhile p = [] := by simpa using h
    rw [if_pos h, h']
    simp only [List.reverse_nil, if_true]
    by_cases hb : p b = true
    · simp [hb]
    · simp [hb]
  · rw [if_neg h]
    have h' : ¬ (t.reverse.dropWhile p).reverse = [] := by simpa using h
    rw [if_neg h']
    simp
theorem rdrop_snoc (p : UInt8 → Bool) (t : List UInt8) (b : UInt8) : rdrop p (t ++ [b]) = if p b = true then rdrop p t else t ++ [b] := by
  unfold rdrop
  rw [List.reverse_append, List.reverse_singleton, List.singleton_append, List.dropWhile_cons]
  split <;> simp
theorem drop_rdrop (p : UInt8 → Bool) : ∀ l : List UInt8, (rdrop p l).dropWhile p = rdrop p (l.dropWhile p)
  | [] => rfl
  | b :: t => by
    have ih := drop_rdrop p t
    by_cases hb : p b = true
    · rw [rdrop_cons, List.dropWhile_cons (x := b) (xs := t), if_pos hb, if_pos hb, ← ih]
      by_cases h : rdrop p t = []
      · rw [if_pos h, h]
      · rw [if_neg h, List.dropWhile_cons, if_pos hb]
    · rw [List.dropWhile_cons (x := b) (xs := t), if_neg hb, rdrop_cons, if_neg hb]
      by_cases h : rdrop p t = []
      · rw [if_pos h, List.dropWhile_cons, if_neg hb]
      · rw [if_neg h, List.dropWhile_cons, if_neg hb]
/-- What is left of a line. -/
def trim (l : List UInt8) : List UInt8 := rdrop gapB (l.dropWhile gapB)
theorem trim_lib (l : List UInt8) : Lib.trimS l [32, 9] = trim l := drop_rdrop gapB l
theorem lines_Trim_eq (s : ByteArray) (hs : s.size ≤ 140737488351232) : lines_Trim.f s = some ⟨(trim (L s)).toArray⟩ := by
  unfold lines_Trim.f strings_Trim.f
  rw [if_pos ⟨by omega, by decide, by decide⟩]
  simp only [Option.bind_some]
  rw [← trim_lib]
  rfl
theorem lines_Blank_eq (s : ByteArray) (hs : s.size ≤ 140737488351232) : lines_Blank.f s = some (trim (L s) == []) := by
  unfold lines_Blank.f
  rw [lines_Trim_eq s hs]
  simp only [Option.bind_some, L_toList, L_mk]
theorem gap_eq (b : UInt8) : emendationref02_gap.f (b.toNat : Int) = some (gapB b) := by
  unfold emendationref02_gap.f
  have h := gapB_iff b
  by_cases h1 : (b.toNat : Int) = 32
  · rw [if_pos h1, h.2 (.inl h1)]
  · rw [if_neg h1]
    by_cases h2 : (b.toNat : Int) = 9
    · rw [h.2 (.inr h2)]; simp [h2]
    · have h3 : gapB b = false := by rw [Bool.eq_false_iff]; intro h4; rcases h.1 h4 with h5 | h5 <;> contradiction
      rw [h3]; simp [h2]
theorem ref_Trim_l1 : ∀ (n k : Nat) (s : ByteArray), s.size = n → n < k → n ≤ 140737488351232 → ∃ r, emendationref02_Trim.l1 k s = some r ∧ L r = rdrop gapB (L s) := by
  intro n
  induction n with
  | zero =>
    intro k s h hk hn
    obtain ⟨k, rfl⟩ : ∃ m, k = m + 1 := ⟨k - 1, by omega⟩
    have h0 : L s = [] := List.eq_nil_of_length_eq_zero (by rw [← L_size]; exact h)
    refine ⟨s, ?_, by rw [h0]; rfl⟩
    simp only [emendationref02_Trim.l1]
    rw [if_neg (by omega)]
  | succ n ih =>
    intro k s h hk hn
    obtain ⟨k, rfl⟩ : ∃ m, k = m + 1 := ⟨k - 1, by omega⟩
    have hl : n < (L s).length := by rw [← L_size]; omega
    have hsp : L s = (L s).take n ++ [(L s)[n]] := by
      have h1 : (L s).take (n + 1) = L s := List.take_of_length_le (by rw [← L_size]; omega)
      have h2 := List.take_append_getElem hl
      rw [h2, h1]
    have hw : wrap64 ((s.size : Int) - 1) = (n : Int) := by rw [h, wrap_small (by omega) (by omega)]; omega
    simp only [emendationref02_Trim.l1]
    rw [if_pos (by omega), hw, if_pos (by omega), if_pos (by omega), bt_L s n hl, gap_eq]
    simp only [Option.bind_some]
    by_cases hg : gapB ((L s)[n]) = true
    · rw [if_pos hg, if_pos (by omega), Int.toNat_natCast]
      have hz : (s.extract 0 n).size = n := by rw [L_size, L_upto, List.length_take]; omega
      obtain ⟨r, hr, hL⟩ := ih k (s.extract 0 n) hz (by omega) (by omega)
      refine ⟨r, hr, ?_⟩
      rw [hL, L_upto]
      conv => rhs; rw [hsp, rdrop_snoc, if_pos hg]
    · rw [if_neg hg]
      refine ⟨s, rfl, ?_⟩
      conv => rhs; rw [hsp, rdrop_snoc, if_neg hg]
      exact hsp
theorem ref_Trim_l0 : ∀ (n k : Nat) (s : ByteArray), s.size = n → 2 * n + 2 < k → n ≤ 140737488351232 → ∃ r, emendationref02_Trim.l0 k s = some r ∧ L r = trim (L s) := by
  intro n
  induction n with
  | zero =>
    intro k s h hk hn
    obtain ⟨k, rfl⟩ : ∃ m, k = m + 2 := ⟨k - 2, by omega⟩
    have h0 : L s = [] := List.eq_nil_of_length_eq_zero (by rw [← L_size]; exact h)
    simp only [emendationref02_Trim.l0, emendationref02_Trim.j1]
    rw [if_neg (by omega)]
    obtain ⟨r, hr, hL⟩ := ref_Trim_l1 0 k s h (by omega) (by omega)
    exact ⟨r, hr, by rw [hL, h0]; rfl⟩
  | succ n ih =>
    intro k s h hk hn
    obtain ⟨k, rfl⟩ : ∃ m, k = m + 2 := ⟨k - 2, by omega⟩
    have hl : 0 < (L s).length := by rw [← L_size]; omega
    obtain ⟨b, t, hbt⟩ : ∃ b t, L s = b :: t := by
      cases hh : L s with
      | nil => rw [hh] at hl; simp at hl
      | cons b t => exact ⟨b, t, rfl⟩
    have hb := (bt_drop s 0 (b := b) (t := t) (by rw [List.drop_zero]; exact hbt)).1
    simp only [emendationref02_Trim.l0]
    rw [if_pos (by omega), if_pos (by omega), show bt s 0 = (b.toNat : Int) from hb, gap_eq]
    simp only [Option.bind_some]
    by_cases hg : gapB b = true
    · rw [if_pos hg, if_pos (by omega)]
      have hz : (s.extract 1 s.size).size = n := by rw [L_size, L_from, hbt]; simp; rw [L_size, hbt] at h; simpa using h
      obtain ⟨r, hr, hL⟩ := ih (k + 1) (s.extract 1 s.size) hz (by omega) (by omega)
      simp only [emendationref02_Trim.l0] at hr
      refine ⟨r, hr, ?_⟩
      rw [hL, L_from, hbt]
      simp only [trim, List.drop_succ_cons, List.drop_zero, List.dropWhile_cons, hg, if_true]
    · rw [if_neg hg]
      simp only [emendationref02_Trim.j1]
      obtain ⟨r, hr, hL⟩ := ref_Trim_l1 (n + 1) k s h (by omega) (by omega)
      refine ⟨r, hr, ?_⟩
      rw [hL]
      simp only [trim]
      rw [hbt, List.dropWhile_cons, if_neg hg]
theorem ref_Trim_eq (s : ByteArray) (k : Nat) (hs : s.size ≤ 140737488351232) (hk : 2 * s.size + 2 < k) : emendationref02_Trim.f k s = some ⟨(trim (L s)).toArray⟩ := by
  obtain ⟨r, hr, hL⟩ := ref_Trim_l0 s.size k s rfl hk hs
  unfold emendationref02_Trim.f
  rw [hr, ← hL, L_mk']

/-! ### Split -/
/-- cr: a CR stands right ahead. -/
def spl : Bool → List UInt8 → List UInt8 → List (List UInt8) × Bool
  | _, cur, [] => if cur = [] then ([], true) else ([cur], false)
  | cr, cur, b :: t =>
    if b = 10 ∧ cr = true then spl false cur t
    else if b = 10 ∨ b = 13 then (cur :: (spl (b == 13) [] t).1, (spl (b == 13) [] t).2)
    else spl false (cur ++ [b]) t
theorem spl_cr (t : List UInt8) (h : t.head? ≠ some 10) (cur : List UInt8) : spl true cur t = spl false cur t := by
  cases t with
  | nil => rfl
  | cons b t =>
    have hb : b ≠ 10 := fun e => h (by rw [e]; rfl)
    simp [spl, hb]
theorem spl_plain (p : List UInt8) : ∀ (cur t : List UInt8), (∀ b ∈ p, b ≠ 10 ∧ b ≠ 13) → p ≠ [] → ∀ cr, spl cr cur (p ++ t) = spl false (cur ++ p) t := by
  induction p with
  | nil => intro _ _ _ h; exact absurd rfl h
  | cons b p ih =>
    intro cur t hp _ cr
    have hb := hp b (by simp)
    simp only [List.cons_append, spl]
    rw [if_neg (fun h => hb.1 h.1), if_neg (by rintro (h | h); exact hb.1 h; exact hb.2 h)]
    by_cases hpn : p = []
    · subst hpn; simp
    · rw [ih (cur ++ [b]) t (fun c hc => hp c (by simp [hc])) hpn]
      simp
theorem spl_plain0 (p : List UInt8) (t : List UInt8) (hp : ∀ b ∈ p, b ≠ 10 ∧ b ≠ 13) : spl false [] (p ++ t) = spl false p t := by
  by_cases h : p = []
  · subst h; rfl
  · have := spl_plain p [] t hp h false
    simpa using this
theorem spl_lf (cur t : List UInt8) : spl false cur (10 :: t) = (cur :: (spl false [] t).1, (spl false [] t).2) := by
  simp [spl]
theorem spl_cr_lf (cur t : List UInt8) : spl false cur (13 :: 10 :: t) = (cur :: (spl false [] t).1, (spl false [] t).2) := by
  simp [spl]
theorem spl_cr_any (cur t : List UInt8) (h : t.head? ≠ some 10) : spl false cur (13 :: t) = (cur :: (spl false [] t).1, (spl false [] t).2) := by
  simp only [spl]
  rw [if_neg (by simp)]
  simp only [or_true, if_true, beq_self_eq_true]
  rw [spl_cr t h]
end Go.Proofs.YtpofifheicbilaaDoor.Pure
