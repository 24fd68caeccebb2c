/- lines.Run, Longest, Trim, Split, Join and the reference's, as functions of lists of bytes. -/
import Derived.Test.YtpofifheicbilaaDoorBase
import Derived.Test.YtpofifheicbilaaDoorX
namespace Go.Proofs.YtpofifheicbilaaDoor.Pure
open Go.RowKit Go.Proofs.YtpofifheicbilaaDoor.X Go.Proofs.YtpofifheicbilaaDoor.G Go.Proofs.YtpofifheicbilaaDoorW.PrintWords Go.Proofs.YtpofifheicbilaaDoorW.PrintLast Go.Proofs.YtpofifheicbilaaDoorW.PrintMore

/-! ### Run -/
def run (l : List UInt8) (c : Int) : Nat := (l.takeWhile (isB c)).length
theorem run_nil (c : Int) : run [] c = 0 := rfl
theorem run_cons (b : UInt8) (t : List UInt8) (c : Int) : run (b :: t) c = if isB c b = true then run t c + 1 else 0 := by
  unfold run
  rw [List.takeWhile_cons]
  split <;> simp_all
theorem run_le (l : List UInt8) (c : Int) : run l c ≤ l.length := (List.takeWhile_prefix _).length_le
theorem lines_Run_l0 (s : ByteArray) (c : Int) (hs : s.size ≤ 140737488351232) : ∀ (d k i : Nat), i + d = s.size → d < k → lines_Run.l0 k s c (i : Int) = some ((i + run ((L s).drop i) c : Nat) : Int) := by
  intro d
  induction d with
  | zero =>
    intro k i h hk
    obtain ⟨k, rfl⟩ : ∃ m, k = m + 1 := ⟨k - 1, by omega⟩
    simp only [lines_Run.l0]
    rw [if_neg (by omega), List.drop_eq_nil_of_le (by rw [← L_size]; omega)]
    rfl
  | succ d ih =>
    intro k i h hk
    obtain ⟨k, rfl⟩ : ∃ m, k = m + 1 := ⟨k - 1, by omega⟩
    have hl : i < (L s).length := by rw [← L_size]; omega
    simp only [lines_Run.l0]
    rw [if_pos (by omega), if_pos (by omega), List.drop_eq_getElem_cons hl, run_cons, bt_L s i hl]
    by_cases hc : isB c ((L s)[i]) = true
    · rw [if_pos ((isB_iff _ _).1 hc), if_pos hc, wrap_small (by omega) (by omega)]
      have := ih k (i + 1) (by omega) (by omega)
      rw [show ((i : Int) + 1) = ((i + 1 : Nat) : Int) from by omega, this]
      congr 2
      omega
    · rw [if_neg (fun h => hc ((isB_iff _ _).2 h)), if_neg hc]
      simp
theorem lines_Run_eq (s : ByteArray) (c : Int) (k : Nat) (hs : s.size ≤ 140737488351232) (hk : s.size < k) : lines_Run.f k s c = some (run (L s) c : Int) := by
  unfold lines_Run.f
  have := lines_Run_l0 s c hs s.size k 0 (by omega) hk
  simpa using this
theorem ref_Run_l0 (s : ByteArray) (c : Int) (hs : s.size ≤ 140737488351232) : ∀ (d k i : Nat), i + d = s.size → d < k → emendationref02_Run.l0 k s c (i : Int) = some ((i + run ((L s).drop i) c : Nat) : Int) := by
  intro d
  induction d with
  | zero =>
    intro k i h hk
    obtain ⟨k, rfl⟩ : ∃ m, k = m + 1 := ⟨k - 1, by omega⟩
    simp only [emendationref02_Run.l0]
    rw [if_neg (by omega), List.drop_eq_nil_of_le (by rw [← L_size]; omega)]
    rfl
  | succ d ih =>
    intro k i h hk
    obtain ⟨k, rfl⟩ : ∃ m, k = m + 1 := ⟨k - 1, by omega⟩
    have hl : i < (L s).length := by rw [← L_size]; omega
    simp only [emendationref02_Run.l0]
    rw [if_pos (by omega), if_pos (by omega), List.drop_eq_getElem_cons hl, run_cons, bt_L s i hl]
    by_cases hc : isB c ((L s)[i]) = true
    · rw [if_pos ((isB_iff _ _).1 hc), if_pos hc, wrap_small (by omega) (by omega)]
      have := ih k (i + 1) (by omega) (by omega)
      rw [show ((i : Int) + 1) = ((i + 1 : Nat) : Int) from by omega, this]
      congr 2
      omega
    · rw [if_neg (fun h => hc ((isB_iff _ _).2 h)), if_neg hc]
      simp
theorem ref_Run_eq (s : ByteArray) (c : Int) (k : Nat) (hs : s.size ≤ 140737488351232) (hk : s.size < k) : emendationref02_Run.f k s c = some (run (L s) c : Int) := by
  unfold emendationref02_Run.f
  have := ref_Run_l0 s c hs s.size k 0 (by omega) hk
  simpa using this

/-! ### Longest -/
def longest : List UInt8 → Int → Nat
  | [], _ => 0
  | b :: t, c => max (run (b :: t) c) (longest t c)
theorem run_le_longest (l : List UInt8) (c : Int) : run l c ≤ longest l c := by
  cases l with
  | nil => simp [run_nil]
  | cons b t => simp only [longest]; omega
def longA : List UInt8 → Int → Nat → Nat → Nat
  | [], _, _, most => most
  | b :: t, c, now, most => if isB c b = true then longA t c (now + 1) (max most (now + 1)) else longA t c 0 most
theorem longA_eq (c : Int) : ∀ (l : List UInt8) (now most : Nat), now ≤ most → longA l c now most = max most (max (now + run l c) (longest l c))
  | [], now, most, h => by simp [longA, run_nil, longest]; omega
  | b :: t, now, most, h => by
    have hrl := run_le_longest t c
    by_cases hc : isB c b = true
    · simp only [longA, longest, run_cons, if_pos hc]
      rw [longA_eq c t _ _ (by omega)]
      omega
    · simp only [longA, longest, run_cons, if_neg hc]
      rw [longA_eq c t _ _ (by omega)]
      omega
theorem longest_le (c : Int) : ∀ l : List UInt8, longest l c ≤ l.length
  | [] => Nat.le_refl _
  | b :: t => by
    have := longest_le c t
    have := run_le (b :: t) c
    simp only [longest, List.length_cons] at *
    omega
theorem mx_nat (a b : Nat) : mx (a : Int) (b : Int) = ((max a b : Nat) : Int) := by unfold mx; omega
theorem lines_Longest_l0 (s : ByteArray) (c : Int) (hs : s.size ≤ 140737488351232) : ∀ (d k i now most : Nat), i + d = s.size → d < k → now ≤ i →
    lines_Longest.l0 k s c (most : Int) (now : Int) (s.size : Int) (i : Int) = some (longA ((L s).drop i) c now most : Int) := by
  intro d
  induction d with
  | zero =>
    intro k i now most h hk hn
    obtain ⟨k, rfl⟩ : ∃ m, k = m + 1 := ⟨k - 1, by omega⟩
    simp only [lines_Longest.l0]
    rw [if_neg (by omega), List.drop_eq_nil_of_le (by rw [← L_size]; omega)]
    rfl
  | succ d ih =>
    intro k i now most h hk hn
    obtain ⟨k, rfl⟩ : ∃ m, k = m + 1 := ⟨k - 1, by omega⟩
    have hl : i < (L s).length := by rw [← L_size]; omega
    simp only [lines_Longest.l0]
    rw [if_pos (by omega), if_pos (by omega), if_pos (by omega), List.drop_eq_getElem_cons hl, bt_L s i hl, wrap_small (x := (i : Int) + 1) (by omega) (by omega), wrap_small (x := (now : Int) + 1) (by omega) (by omega)]
    simp only [longA]
    rw [show ((i : Int) + 1) = ((i + 1 : Nat) : Int) from by omega, show ((now : Int) + 1) = ((now + 1 : Nat) : Int) from by omega, mx_nat]
    by_cases hc : isB c ((L s)[i]) = true
    · rw [if_pos ((isB_iff _ _).1 hc), if_pos hc]
      exact ih k (i + 1) (now + 1) _ (by omega) (by omega) (by omega)
    · rw [if_neg (fun h => hc ((isB_iff _ _).2 h)), if_neg hc]
      exact ih k (i + 1) 0 most (by omega) (by omega) (by omega)
theorem lines_Longest_eq (s : ByteArray) (c : Int) (k : Nat) (hs : s.size ≤ 140737488351232) (hk : s.size < k) : lines_Longest.f k s c = some (longest (L s) c : Int) := by
  unfold lines_Longest.f
  have := lines_Longest_l0 s c hs s.size k 0 0 0 (by omega) hk (by omega)
  simp only [List.drop_zero] at this
  rw [longA_eq c _ _ _ (Nat.le_refl _)] at this
  have h2 := run_le_longest (L s) c
  rw [show max 0 (max (0 + run (L s) c) (longest (L s) c)) = longest (L s) c from by omega] at this
  exact this
theorem ref_Longest_l0 (s : ByteArray) (c : Int) (hs : s.size ≤ 140737488351232) : ∀ (d k i most : Nat), i + d = s.size → s.size < k → d + s.size + 1 < k →
    emendationref02_Longest.l0 k s c (most : Int) (s.size : Int) (i : Int) = some ((max most (longest ((L s).drop i) c) : Nat) : Int) := by
  intro d
  induction d with
  | zero =>
    intro k i most h hk hk2
    obtain ⟨k, rfl⟩ : ∃ m, k = m + 1 := ⟨k - 1, by omega⟩
    simp only [emendationref02_Longest.l0]
    rw [if_neg (by omega), List.drop_eq_nil_of_le (by rw [← L_size]; omega)]
    simp [longest]
  | succ d ih =>
    intro k i most h hk hk2
    obtain ⟨k, rfl⟩ : ∃ m, k = m + 1 := ⟨k - 1, by omega⟩
    have hl : i < (L s).length := by rw [← L_size]; omega
    have hsz : (s.extract i s.size).size ≤ s.size := by rw [L_size, L_from, List.length_drop, ← L_size]; omega
    simp only [emendationref02_Longest.l0]
    rw [if_pos (by omega), if_pos (by omega), if_pos (by omega), Int.toNat_natCast, ref_Run_eq _ c k (by omega) (by omega), wrap_small (x := (i : Int) + 1) (by omega) (by omega), L_from]
    simp only [Option.bind_some]
    rw [mx_nat, show ((i : Int) + 1) = ((i + 1 : Nat) : Int) from by omega, ih k (i + 1) _ (by omega) (by omega) (by omega), List.drop_eq_getElem_cons hl]
    simp only [longest]
    congr 2
    omega
theorem ref_Longest_eq (s : ByteArray) (c : Int) (k : Nat) (hs : s.size ≤ 140737488351232) (hk : 2 * s.size + 1 < k) : emendationref02_Longest.f k s c = some (longest (L s) c : Int) := by
  unfold emendationref02_Longest.f
  have := ref_Longest_l0 s c hs s.size k 0 0 (by omega) (by omega) (by omega)
  simpa using this
theorem run_append (c : Int) : ∀ (a b : List UInt8), run (a ++ b) c = if run a c = a.length then a.length + run b c else run a c
  | [], b => by simp [run_nil]
  | x :: a, b => by
    have ih := run_append c a b
    have hle := run_le a c
    simp only [List.cons_append, run_cons, List.length_cons]
    by_cases hx : isB c x = true
    · rw [if_pos hx, if_pos hx, ih]
      by_cases h : run a c = a.length
      · rw [if_pos h, if_pos (by omega)]; omega
      · rw [if_neg h, if_neg (by omega)]
    · rw [if_neg hx, if_neg hx, if_neg (by omega)]
/-- How many bytes c a text ends with. -/
def tail (l : List UInt8) (c : Int) : Nat := run l.reverse c
theorem tail_cons (x : UInt8) (a : List UInt8) (c : Int) : tail (x :: a) c = if tail a c = a.length then a.length + (if isB c x = true then 1 else 0) else tail a c := by
  unfold tail
  rw [List.reverse_cons, run_append, List.length_reverse, run_cons, run_nil]
theorem run_full_iff (c : Int) : ∀ a : List UInt8, run a c = a.length ↔ tail a c = a.length
  | [] => by simp [tail, run_nil]
  | x :: a => by
    have ih := run_full_iff c a
    have h1 := run_le a c
    have h2 : tail a c ≤ a.length := by unfold tail; have := run_le a.reverse c; rwa [List.length_reverse] at this
    rw [run_cons, tail_cons, List.length_cons]
    by_cases hx : isB c x = true
    · rw [if_pos hx, if_pos hx]
      by_cases h : tail a c = a.length
      · rw [if_pos h]; have := ih.2 h; omega
      · rw [if_neg h]; have : run a c ≠ a.length := fun h' => h (ih.1 h'); omega
    · rw [if_neg hx, if_neg hx]
      split <;> omega
theorem longest_append (c : Int) : ∀ (a b : List UInt8), longest (a ++ b) c = max (max (longest a c) (longest b c)) (tail a c + run b c)
  | [], b => by
    have := run_le_longest b c
    simp [longest, tail, run_nil]
    omega
  | x :: a, b => by
    have ih := longest_append c a b
    have h1 := run_le a c
    have h2 : tail a c ≤ a.length := by unfold tail; have := run_le a.reverse c; rwa [List.length_reverse] at this
    have h3 := run_full_iff c a
    have h4 := run_le_longest a c
    have h5 : tail a c ≤ longest a c := by
      clear ih h1 h2 h3 h4
      induction a with
      | nil => simp [tail, run_nil]
      | cons y a ih =>
        have h1 := run_le a c
        have h3 := run_full_iff c a
        have h6 : tail a c ≤ a.length := by unfold tail; have := run_le a.reverse c; rwa [List.length_reverse] at this
        rw [tail_cons]
        simp only [longest, run_cons]
        by_cases h : tail a c = a.length
        · rw [if_pos h]
          have h7 := h3.2 h
          by_cases hy : isB c y = true
          · rw [if_pos hy, if_pos hy]; omega
          · rw [if_neg hy, if_neg hy]; omega
        · rw [if_neg h]; omega
    rw [tail_cons]
    simp only [List.cons_append, longest, ih, run_cons, run_append]
    by_cases hx : isB c x = true
    · simp only [if_pos hx]
      by_cases h : run a c = a.length
      · rw [if_pos h, if_pos (h3.1 h)]; have := h3.1 h; omega
      · rw [if_neg h, if_neg (fun h' => h (h3.2 h'))]; omega
    · simp only [if_neg hx]
      by_cases h : run a c = a.length
      · rw [if_pos (h3.1 h)]; have := h3.1 h; omega
      · rw [if_neg (fun h' => h (h3.2 h'))]; omega
end Go.Proofs.YtpofifheicbilaaDoor.Pure
