/- Classes of characters and folding, plain: both sides' functions, and what is folded one behind the other. -/
import Derived.Test.YtmamjecpjookoaaDoorX5
import Derived.Test.YtmamjecpjookoaaDoorX6
import Derived.Test.YtmamjecpjookoaaDoorPUtf2
import Derived.Lib.SlTrimSet
namespace Go.Proofs.YtmamjecpjookoaaDoor.Pure
open Go.RowKit Go.Lib Go.Proofs.YtmamjecpjookoaaDoor.X Go.Proofs.YtmamjecpjookoaaDoor.G Go.Proofs.YtmamjecpjookoaaDoorW.PrintWords Go.Proofs.YtmamjecpjookoaaDoorW.PrintLast Go.Proofs.YtmamjecpjookoaaDoorW.PrintMore
/-! Classes of characters: both sides say classV. -/
def classV (c : Int) : Int := if c = 10 ∨ c = 13 then 3 else if c = 9 ∨ c = 32 then 2 else if (33 ≤ c ∧ c ≤ 47) ∨ (58 ≤ c ∧ c ≤ 64) ∨ (91 ≤ c ∧ c ≤ 96) ∨ (123 ≤ c ∧ c ≤ 126) then 4 else 1
theorem Class_eq (c : Int) (k : Nat) : utf_Class.f (k + 9) c = some (classV c) := by
  unfold utf_Class.f classV
  simp only [utf_Class.j0, utf_Class.j1, utf_Class.j2, utf_Class.j3, utf_Class.j4, beq_iff_eq, decide_eq_true_eq, Bool.false_eq_true, if_true, if_false]
  have hr : c < 9 ∨ c = 9 ∨ c = 10 ∨ (10 < c ∧ c < 13) ∨ c = 13 ∨ (13 < c ∧ c < 32) ∨ c = 32 ∨ (33 ≤ c ∧ c ≤ 47) ∨ (48 ≤ c ∧ c ≤ 57) ∨ (58 ≤ c ∧ c ≤ 64) ∨ (65 ≤ c ∧ c ≤ 90) ∨ (91 ≤ c ∧ c ≤ 96) ∨ (97 ≤ c ∧ c ≤ 122) ∨ (123 ≤ c ∧ c ≤ 126) ∨ 127 ≤ c := by omega
  rcases hr with h | h | h | h | h | h | h | h | h | h | h | h | h | h | h
  all_goals (repeat (first | rw [if_pos (by omega)] | rw [if_neg (by omega)]))
theorem ref_Class_eq (c : Int) (k : Nat) : emendationref01_Class.f (k + 9) c = some (classV c) := by
  unfold emendationref01_Class.f classV
  simp only [emendationref01_Class.j0, emendationref01_Class.j1, beq_iff_eq, if_true]
  have hr : c < 9 ∨ c = 9 ∨ c = 10 ∨ (10 < c ∧ c < 13) ∨ c = 13 ∨ (13 < c ∧ c < 32) ∨ c = 32 ∨ (33 ≤ c ∧ c ≤ 47) ∨ (48 ≤ c ∧ c ≤ 57) ∨ (58 ≤ c ∧ c ≤ 64) ∨ (65 ≤ c ∧ c ≤ 90) ∨ (91 ≤ c ∧ c ≤ 96) ∨ (97 ≤ c ∧ c ≤ 122) ∨ (123 ≤ c ∧ c ≤ 126) ∨ 127 ≤ c := by omega
  rcases hr with h | h | h | h | h | h | h | h | h | h | h | h | h | h | h
  all_goals (repeat (first | rw [if_pos (by omega)] | rw [if_neg (by omega)]))
/-! Folding, plain: a run over the bytes with what is out and whether a space waits. -/
def gapB (b : UInt8) : Bool := b.toNat == 9 || b.toNat == 10 || b.toNat == 13 || b.toNat == 32
def lowB (b : UInt8) : UInt8 := if 65 ≤ b.toNat ∧ b.toNat ≤ 90 then UInt8.ofNat (b.toNat + 32) else b
def sp (w : Bool) : List UInt8 := if w then [32] else []
def run : List UInt8 → List UInt8 → Bool → List UInt8 × Bool
  | [], o, w => (o, w)
  | c :: t, o, w => if gapB c = true then run t o (!o.isEmpty) else run t (o ++ sp w ++ [lowB c]) false
def foldV (l : List UInt8) : List UInt8 := (run l [] false).1
theorem run_append (a b o : List UInt8) (w : Bool) : run (a ++ b) o w = run b (run a o w).1 (run a o w).2 := by
  induction a generalizing o w with
  | nil => rfl
  | cons c t ih =>
    simp only [List.cons_append, run]
    split
    · exact ih _ _
    · exact ih _ _
theorem low_gap (b : UInt8) (h : gapB b = false) : gapB (lowB b) = false := by
  unfold lowB
  split
  · rename_i g
    have : (UInt8.ofNat (b.toNat + 32)).toNat = b.toNat + 32 := by simp; omega
    unfold gapB
    rw [this]
    simp
    omega
  · exact h
theorem low_low (b : UInt8) : lowB (lowB b) = lowB b := by
  by_cases g : 65 ≤ b.toNat ∧ b.toNat ≤ 90
  · have e : lowB b = UInt8.ofNat (b.toNat + 32) := if_pos g
    have : (UInt8.ofNat (b.toNat + 32)).toNat = b.toNat + 32 := by simp; omega
    rw [e]
    unfold lowB
    rw [this, if_neg (by omega)]
  · have e : lowB b = b := if_neg g
    rw [e, e]
/-- What a run yields runs to itself. -/
theorem run_self (l : List UInt8) : ∀ (o : List UInt8) (w : Bool), run o [] false = (o, false) → (w = true → o ≠ []) → run (run l o w).1 [] false = ((run l o w).1, false) := by
  induction l with
  | nil => intro o w h _; exact h
  | cons c t ih =>
    intro o w h hw
    simp only [run]
    split
    · exact ih o _ h (fun e => by cases o <;> simp_all)
    · rename_i g
      have g' : gapB c = false := by simpa using g
      refine ih _ _ ?_ (fun e => by cases e)
      rw [run_append, run_append, h]
      cases w with
      | false => simp [sp, run, low_gap c g', low_low]
      | true =>
        have ho := hw rfl
        have h32 : gapB 32 = true := rfl
        have hoe : (!o.isEmpty) = true := by cases o <;> simp_all
        simp [sp, run, low_gap c g', low_low, h32, hoe]
theorem fold_fold (l : List UInt8) : foldV (foldV l) = foldV l := by
  unfold foldV
  rw [run_self l [] false rfl (fun e => by cases e)]
/-! The reference's Fold is foldV. -/
theorem ref_gap_eq (b : UInt8) : emendationref01_gap.f (b.toNat : Int) = some (gapB b) := by
  unfold emendationref01_gap.f gapB
  have h := b.toNat_lt
  by_cases h1 : b.toNat = 9
  · rw [if_pos (by omega)]; simp [h1]
  rw [if_neg (by omega)]
  by_cases h2 : b.toNat = 10
  · rw [if_pos (by omega)]; simp [h2]
  rw [if_neg (by omega)]
  by_cases h3 : b.toNat = 13
  · rw [if_pos (by omega)]; simp [h3]
  rw [if_neg (by omega)]
  have e1 : (b.toNat == 9) = false := beq_eq_false_iff_ne.mpr h1
  have e2 : (b.toNat == 10) = false := beq_eq_false_iff_ne.mpr h2
  have e3 : (b.toNat == 13) = false := beq_eq_false_iff_ne.mpr h3
  rw [e1, e2, e3]
  by_cases h4 : b.toNat = 32
  · simp [h4]
  · have e4 : (b.toNat == 32) = false := beq_eq_false_iff_ne.mpr h4
    have e5 : ((b.toNat : Int) == 32) = false := beq_eq_false_iff_ne.mpr (by omega)
    rw [e4, e5]
    rfl
theorem L_nums (n : Int) : L (strOfNums [n]) = [UInt8.ofNat n.toNat] := by
  rw [← L_toList, strOfNums_toList]
  rfl
theorem nums_size (n : Int) : (strOfNums [n]).size = 1 := by rw [L_size, L_nums]; rfl
section
variable (s : ByteArray) (hs : s.size ≤ 140737488351232)
include hs
theorem ref_Fold_l0 : ∀ (d i k : Nat) (o : ByteArray) (w : Bool), i + d = s.size → d < k → o.size ≤ 2 * i → emendationref01_Fold.l0 k s o w (i : Int) = some ⟨(run ((L s).drop i) (L o) w).1.toArray⟩ := by
  intro d
  induction d with
  | zero =>
    intro i k o w h hk ho
    obtain ⟨k, rfl⟩ : ∃ m, k = m + 1 := ⟨k - 1, by omega⟩
    simp only [emendationref01_Fold.l0]
    rw [if_neg (by omega), List.drop_eq_nil_of_le (by rw [← L_size]; omega)]
    simp only [run]
    rw [L_mk']
  | succ d ih =>
    intro i k o w h hk ho
    obtain ⟨k, rfl⟩ : ∃ m, k = m + 1 := ⟨k - 1, by omega⟩
    have hi : i < (L s).length := by rw [← L_size]; omega
    have h1 : (o ++ (⟨#[32]⟩ : ByteArray)).size = o.size + 1 := size_append _ _
    have hw1 : wrap64 ((i : Int) + 1) = ((i + 1 : Nat) : Int) := by rw [wrap_small (by omega) (by omega)]; omega
    have step : ∀ (p : ByteArray) (n : Int), p.size ≤ 2 * i + 1 → emendationref01_Fold.l0 k s (p ++ strOfNums [n]) false ((i + 1 : Nat) : Int) = some ⟨(run ((L s).drop (i + 1)) (L p ++ [UInt8.ofNat n.toNat]) false).1.toArray⟩ := by
      intro p n hp
      rw [ih (i + 1) k _ false (by omega) (by omega) (by rw [size_append, nums_size]; omega), L_append, L_nums]
    simp only [emendationref01_Fold.l0]
    rw [if_pos (by omega), if_pos (by omega), bt_L s i hi, ref_gap_eq, Option.bind_some, hw1, List.drop_eq_getElem_cons hi]
    simp only [run]
    have hb := (L s)[i].toNat_lt
    by_cases g : gapB (L s)[i] = true
    · rw [if_pos g, if_pos g, ih (i + 1) k o _ (by omega) (by omega) (by omega), L_toList]
      have e : (L o != ([] : List UInt8)) = !(L o).isEmpty := by cases L o <;> rfl
      rw [e]
    · rw [if_neg g, if_neg g]
      have hl : lowB (L s)[i] = (if 65 ≤ (L s)[i].toNat ∧ (L s)[i].toNat ≤ 90 then UInt8.ofNat ((L s)[i].toNat + 32) else (L s)[i]) := rfl
      have hn1 : (((L s)[i].toNat : Int)).toNat = (L s)[i].toNat := Int.toNat_natCast _
      have hn2 : UInt8.ofNat (L s)[i].toNat = (L s)[i] := by simp
      cases w with
      | true =>
        have e2 : L (o ++ (⟨#[32]⟩ : ByteArray)) = L o ++ sp true := L_append _ _
        rw [if_pos rfl, if_pos (by omega)]
        by_cases a : 65 ≤ (L s)[i].toNat
        · rw [if_pos (by omega)]
          by_cases c : (L s)[i].toNat ≤ 90
          · have hn3 : ((((L s)[i].toNat : Int) + 32) % 256).toNat = (L s)[i].toNat + 32 := by omega
            rw [if_pos (by omega), Option.bind_some, nums_size, if_pos (by omega), step _ _ (by omega), hn3, e2, hl, if_pos ⟨a, c⟩]
          · rw [if_neg (by omega), Option.bind_some, nums_size, if_pos (by omega), step _ _ (by omega), hn1, hn2, e2, hl, if_neg (fun h => c h.2)]
        · rw [if_neg (by omega), Option.bind_some, nums_size, if_pos (by omega), step _ _ (by omega), hn1, hn2, e2, hl, if_neg (fun h => a h.1)]
      | false =>
        have e2 : L o = L o ++ sp false := by simp [sp]
        rw [if_neg (by decide)]
        by_cases a : 65 ≤ (L s)[i].toNat
        · rw [if_pos (by omega)]
          by_cases c : (L s)[i].toNat ≤ 90
          · have hn3 : ((((L s)[i].toNat : Int) + 32) % 256).toNat = (L s)[i].toNat + 32 := by omega
            rw [if_pos (by omega), Option.bind_some, nums_size, if_pos (by omega), step _ _ (by omega), hn3, ← e2, hl, if_pos ⟨a, c⟩]
          · rw [if_neg (by omega), Option.bind_some, nums_size, if_pos (by omega), step _ _ (by omega), hn1, hn2, ← e2, hl, if_neg (fun h => c h.2)]
        · rw [if_neg (by omega), Option.bind_some, nums_size, if_pos (by omega), step _ _ (by omega), hn1, hn2, ← e2, hl, if_neg (fun h => a h.1)]
end
/-! utf.Fold is foldV: over the trimmed bytes its row is what is out, and a space where one waits. -/
def gaps : List UInt8 := [9, 10, 13, 32]
theorem gaps_gap (b : UInt8) : gaps.contains b = gapB b := by
  have h : ∀ n : Fin 256, gaps.contains (UInt8.ofNat n.val) = gapB (UInt8.ofNat n.val) := by decide +kernel
  have := h ⟨b.toNat, b.toNat_lt⟩
  simpa using this
theorem fold_lead (l : List UInt8) : run (l.dropWhile gapB) [] false = run l [] false := by
  induction l with
  | nil => rfl
  | cons c t ih =>
    rw [List.dropWhile_cons]
    split
    · rename_i g
      rw [ih]
      simp [run, g]
    · rfl
theorem fold_trail (l : List UInt8) (o : List UInt8) (w : Bool) (h : ∀ b ∈ l, gapB b = true) : (run l o w).1 = o := by
  induction l generalizing o w with
  | nil => rfl
  | cons c t ih =>
    simp only [run]
    rw [if_pos (h c (by simp))]
    exact ih _ _ (fun b hb => h b (by simp [hb]))
theorem fold_rdrop (l : List UInt8) (o : List UInt8) (w : Bool) : (run (l.reverse.dropWhile gapB).reverse o w).1 = (run l o w).1 := by
  have e : l = (l.reverse.dropWhile gapB).reverse ++ (l.reverse.takeWhile gapB).reverse := by
    rw [← List.reverse_append, List.takeWhile_append_dropWhile, List.reverse_reverse]
  conv => rhs; rw [e, run_append]
  refine (fold_trail _ _ _ (fun b hb => ?_)).symm
  exact List.all_eq_true.1 List.all_takeWhile b (List.mem_reverse.1 hb)
theorem fold_trim (l : List UInt8) : foldV (trimS l gaps) = foldV l := by
  unfold foldV trimS trimLeftS trimRightS
  have e : (fun x => gaps.contains x) = gapB := funext gaps_gap
  rw [e, fold_lead, fold_rdrop]
/-! utf.Fold's loop: what is out, and a space where one waits. -/
def nums8 (l : List UInt8) : List Int := l.map (fun b => (b.toNat : Int))
theorem wrap32_byte (b : UInt8) : wrap32 (b.toNat : Int) = (b.toNat : Int) := by
  have := b.toNat_lt
  unfold wrap32; omega
theorem utf_gap_eq (b : UInt8) (k : Nat) : utf_gap.f (k + 9) (wrap32 (b.toNat : Int)) = some (gapB b) := by
  have hb := b.toNat_lt
  unfold utf_gap.f
  rw [wrap32_byte, wrap_small (by omega) (by omega), Class_eq, Option.bind_some, Option.bind_some]
  unfold classV gapB
  have hr : b.toNat = 9 ∨ b.toNat = 10 ∨ b.toNat = 13 ∨ b.toNat = 32 ∨ (b.toNat ≠ 9 ∧ b.toNat ≠ 10 ∧ b.toNat ≠ 13 ∧ b.toNat ≠ 32) := by omega
  rcases hr with h | h | h | h | ⟨h1, h2, h3, h4⟩
  · rw [h]; rfl
  · rw [h]; rfl
  · rw [h]; rfl
  · rw [h]; rfl
  · rw [if_neg (by omega), if_neg (by omega), beq_eq_false_iff_ne.mpr h1, beq_eq_false_iff_ne.mpr h2, beq_eq_false_iff_ne.mpr h3, beq_eq_false_iff_ne.mpr h4]
    by_cases g : (33 ≤ (b.toNat : Int) ∧ (b.toNat : Int) ≤ 47) ∨ (58 ≤ (b.toNat : Int) ∧ (b.toNat : Int) ≤ 64) ∨ (91 ≤ (b.toNat : Int) ∧ (b.toNat : Int) ≤ 96) ∨ (123 ≤ (b.toNat : Int) ∧ (b.toNat : Int) ≤ 126)
    · rw [if_neg (show ¬ ((b.toNat : Int) = 9 ∨ (b.toNat : Int) = 32) by omega), if_pos g]; rfl
    · rw [if_neg (show ¬ ((b.toNat : Int) = 9 ∨ (b.toNat : Int) = 32) by omega), if_neg g]; rfl
theorem utf_lower_eq (b : UInt8) : utf_lower.f (b.toNat : Int) = some ((lowB b).toNat : Int) := by
  have hb := b.toNat_lt
  unfold utf_lower.f lowB
  by_cases h1 : 65 ≤ b.toNat
  · rw [if_pos (by omega)]
    by_cases h2 : b.toNat ≤ 90
    · rw [if_pos (by omega), if_pos ⟨h1, h2⟩]
      have : (UInt8.ofNat (b.toNat + 32)).toNat = b.toNat + 32 := by simp; omega
      rw [this]
      congr 1
      omega
    · rw [if_neg (by omega), if_neg (fun h => h2 h.2)]
  · rw [if_neg (by omega), if_neg (fun h => h1 h.1)]
/-! utf.Fold is foldV: the loop. -/
/-- A space waits just behind a gap (where the first byte is none, and something is out). -/
theorem run_wait (T : List UInt8) (i : Nat) (hi : i < T.length) : (run (T.take (i + 1)) [] false) = (if gapB T[i] = true then ((run (T.take i) [] false).1, !(run (T.take i) [] false).1.isEmpty) else ((run (T.take i) [] false).1 ++ sp (run (T.take i) [] false).2 ++ [lowB T[i]], false)) := by
  rw [← List.take_append_getElem hi, run_append]
  simp only [run]
theorem run_state (T : List UInt8) (h0 : ∀ h : 0 < T.length, gapB T[0] = false) : ∀ (i : Nat) (hi : i < T.length), (run (T.take (i + 1)) [] false).1 ≠ [] ∧ (run (T.take (i + 1)) [] false).2 = gapB T[i]
  | 0, hi => by
    rw [run_wait T 0 hi, h0 hi, if_neg (by decide)]
    exact ⟨by simp [run, sp], rfl⟩
  | i + 1, hi => by
    have ih := run_state T h0 i (by omega)
    rw [run_wait T (i + 1) hi]
    by_cases g : gapB T[i + 1] = true
    · rw [if_pos g, g]
      refine ⟨ih.1, ?_⟩
      cases h : (run (T.take (i + 1)) [] false).1 with
      | nil => exact absurd h ih.1
      | cons _ _ => rfl
    · rw [if_neg g]
      exact ⟨by simp, by simpa using g⟩
theorem rd_nums8 (T : List UInt8) (i : Nat) (hi : i < T.length) : rd (nums8 T) (i : Int) = (T[i].toNat : Int) := by
  unfold rd nums8
  simp [List.getD, hi]
theorem Fold_l0 (T : List UInt8) (hT : T.length ≤ 140737488351232) (h0 : ∀ h : 0 < T.length, gapB T[0] = false) : ∀ (d i k : Nat), i + d = T.length → d + 20 < k → ((run (T.take i) [] false).1 ++ sp (run (T.take i) [] false).2).length ≤ i →
    utf_Fold.l0 k (nums8 T) (nums8 ((run (T.take i) [] false).1 ++ sp (run (T.take i) [] false).2)) (nums8 T) (T.length : Int) (i : Int) = some (strOfNums (nums8 ((run T [] false).1 ++ sp (run T [] false).2))) := by
  intro d
  induction d with
  | zero =>
    intro i k h hk _
    obtain ⟨k, rfl⟩ : ∃ m, k = m + 1 := ⟨k - 1, by omega⟩
    simp only [utf_Fold.l0]
    rw [if_neg (by omega), List.take_of_length_le (by omega)]
  | succ d ih =>
    intro i k h hk hl
    obtain ⟨k, rfl⟩ : ∃ m, k = m + 1 := ⟨k - 1, by omega⟩
    have hi : i < T.length := by omega
    have hlen : (nums8 T).length = T.length := by simp [nums8]
    have hw1 : wrap64 ((i : Int) + 1) = ((i + 1 : Nat) : Int) := by rw [wrap_small (by omega) (by omega)]; omega
    have hn : ∀ x y : List UInt8, nums8 (x ++ y) = nums8 x ++ nums8 y := fun x y => List.map_append
    have hnl : ∀ x : List UInt8, (nums8 x).length = x.length := fun x => by simp [nums8]
    have hsp : ∀ w, (sp w).length ≤ 1 := fun w => by cases w <;> simp [sp]
    have next := ih (i + 1) k (by omega) (by omega)
    rw [run_wait T i hi] at next
    simp only [utf_Fold.l0]
    rw [if_pos (by omega), if_pos (by omega), hlen, if_pos (by omega), rd_nums8 T i hi, show k = (k - 9) + 9 from by omega, utf_gap_eq, ← show k = (k - 9) + 9 from by omega, Option.bind_some, hw1]
    by_cases g : gapB T[i] = true
    · rw [if_pos g] at next
      rw [if_pos g]
      obtain ⟨j, rfl⟩ : ∃ j, i = j + 1 := ⟨i - 1, by
        rcases Nat.eq_zero_or_pos i with e | e
        · subst e; rw [h0 hi] at g; cases g
        · omega⟩
      obtain ⟨s1, s2⟩ := run_state T h0 j (by omega)
      have e1 : (!(run (T.take (j + 1)) [] false).1.isEmpty) = true := by
        cases h : (run (T.take (j + 1)) [] false).1 with
        | nil => exact absurd h s1
        | cons _ _ => rfl
      rw [e1] at next
      rw [wrap_small (x := ((j + 1 : Nat) : Int) - 1) (by omega) (by omega), show ((j + 1 : Nat) : Int) - 1 = (j : Int) from by omega, if_pos (by omega), if_pos (by omega), rd_nums8 T j (by omega), show k = (k - 9) + 9 from by omega, utf_gap_eq, ← show k = (k - 9) + 9 from by omega, Option.bind_some]
      by_cases p : gapB T[j] = true
      · rw [if_pos p]
        rw [s2, p] at hl ⊢
        exact next (Nat.le_succ_of_le hl)
      · have p' : gapB T[j] = false := by simpa using p
        rw [if_neg p]
        rw [s2, p'] at hl ⊢
        rw [if_pos (by rw [hnl]; omega)]
        have e2 : nums8 ((run (T.take (j + 1)) [] false).1 ++ sp false) ++ [32] = nums8 ((run (T.take (j + 1)) [] false).1 ++ sp true) := by
          rw [← show nums8 [32] = [32] from rfl, ← hn, List.append_assoc]; rfl
        rw [e2]
        exact next (by simp [sp] at hl ⊢; omega)
    · rw [if_neg g] at next
      rw [if_neg g, utf_lower_eq, Option.bind_some, if_pos (by rw [hnl]; omega)]
      have e2 : nums8 ((run (T.take i) [] false).1 ++ sp (run (T.take i) [] false).2) ++ [((lowB T[i]).toNat : Int)] = nums8 ((run (T.take i) [] false).1 ++ sp (run (T.take i) [] false).2 ++ [lowB T[i]] ++ sp false) := by
        rw [show sp false = [] from rfl, List.append_nil, hn _ [lowB T[i]]]; rfl
      rw [e2]
      exact next (by simp only [show sp false = [] from rfl, List.append_nil, List.length_append, List.length_singleton] at hl ⊢; omega)
theorem drop_head (p : UInt8 → Bool) : ∀ (l : List UInt8) (b : UInt8), (l.dropWhile p)[0]? = some b → p b = false
  | [], b, h => by cases h
  | c :: t, b, h => by
    rw [List.dropWhile_cons] at h
    by_cases g : p c = true
    · rw [if_pos g] at h; exact drop_head p t b h
    · rw [if_neg g] at h
      have e : c = b := by simpa using h
      rw [← e]; simpa using g
theorem rdrop_last (p : UInt8 → Bool) (l : List UInt8) (b : UInt8) (h : (l.reverse.dropWhile p).reverse.getLast? = some b) : p b = false := by
  rw [List.getLast?_reverse] at h
  refine drop_head p l.reverse b ?_
  rw [← List.head?_eq_getElem?]
  exact h
theorem dropWhile_last (p : UInt8 → Bool) : ∀ (l : List UInt8) (b : UInt8), (l.dropWhile p).getLast? = some b → l.getLast? = some b
  | [], b, h => h
  | c :: t, b, h => by
    rw [List.dropWhile_cons] at h
    by_cases g : p c = true
    · rw [if_pos g] at h
      have := dropWhile_last p t b h
      cases t with
      | nil => cases this
      | cons x y => rw [List.getLast?_cons_cons]; exact this
    · rw [if_neg g] at h; exact h
theorem trim_head (l : List UInt8) (h : 0 < (trimS l gaps).length) : gapB (trimS l gaps)[0] = false := by
  have e : trimS l gaps = (trimRightS l gaps).dropWhile gapB := by
    unfold trimS trimLeftS
    rw [show (fun x => gaps.contains x) = gapB from funext gaps_gap]
  refine drop_head gapB (trimRightS l gaps) _ ?_
  rw [← e]
  exact List.getElem?_eq_getElem h
theorem trim_last (l : List UInt8) (b : UInt8) (h : (trimS l gaps).getLast? = some b) : gapB b = false := by
  have e : trimS l gaps = (trimRightS l gaps).dropWhile gapB := by
    unfold trimS trimLeftS
    rw [show (fun x => gaps.contains x) = gapB from funext gaps_gap]
  rw [e] at h
  have h2 := dropWhile_last gapB _ b h
  unfold trimRightS at h2
  rw [show (fun x => gaps.contains x) = gapB from funext gaps_gap] at h2
  exact rdrop_last gapB l b h2
/-- Over what is trimmed nothing waits at the end. -/
theorem trim_wait (l : List UInt8) : (run (trimS l gaps) [] false).2 = false := by
  generalize hT : trimS l gaps = T
  rcases Nat.eq_zero_or_pos T.length with h | h
  · rw [List.eq_nil_of_length_eq_zero h]; rfl
  · have h0 : ∀ h : 0 < T.length, gapB T[0] = false := by subst hT; exact trim_head l
    obtain ⟨n, hn⟩ : ∃ n, T.length = n + 1 := ⟨T.length - 1, by omega⟩
    have s2 := (run_state T h0 n (by omega)).2
    rw [List.take_of_length_le (by omega)] at s2
    rw [s2]
    refine trim_last l _ ?_
    rw [hT, List.getLast?_eq_getElem?, show T.length - 1 = n from by omega]
    exact List.getElem?_eq_getElem _
theorem nums8_str (x : List UInt8) : strOfNums (nums8 x) = ⟨x.toArray⟩ := by
  apply L_ext
  rw [← L_toList, strOfNums_toList, L_mk]
  unfold Lib.bytesOf nums8
  rw [List.map_map]
  have : ∀ l : List UInt8, l.map ((fun n : Int => UInt8.ofNat n.toNat) ∘ fun b : UInt8 => (b.toNat : Int)) = l := by
    intro l
    induction l with
    | nil => rfl
    | cons b t ih => rw [List.map_cons, ih]; simp
  exact this x
theorem utf_Fold_eq (s : ByteArray) (hs : s.size ≤ 140737488351232) (k : Nat) (hk : s.size + 30 < k) : utf_Fold.f k s = some ⟨(foldV (L s)).toArray⟩ := by
  unfold utf_Fold.f strings_Trim.f
  rw [if_pos ⟨by omega, by decide, by decide⟩, Option.bind_some]
  have hset : (⟨#[9, 10, 13, 32]⟩ : ByteArray).data.toList = gaps := rfl
  rw [hset]
  have hlen : (trimS s.data.toList gaps).length ≤ s.size := by
    unfold trimS trimLeftS trimRightS
    have h1 := (List.dropWhile_sublist (l := s.data.toList.reverse) (fun x => gaps.contains x)).length_le
    have h2 := (List.dropWhile_sublist (l := (s.data.toList.reverse.dropWhile (fun x => gaps.contains x)).reverse) (fun x => gaps.contains x)).length_le
    rw [List.length_reverse] at h1 h2
    have h3 := L_size s
    unfold L at h3
    omega
  have hf : foldV (L s) = (run (trimS s.data.toList gaps) [] false).1 := (fold_trim (L s)).symm
  have hw := trim_wait s.data.toList
  have hd := trim_head s.data.toList
  generalize trimS s.data.toList gaps = T at *
  have hy : Go.Proofs.YtmamjecpjookoaaDoorW.PrintWords.bytesOf (⟨T.toArray⟩ : ByteArray) = nums8 T := by
    unfold Go.Proofs.YtmamjecpjookoaaDoorW.PrintWords.bytesOf nums8
    simp
  have hsz : (⟨T.toArray⟩ : ByteArray).size = T.length := by rw [L_size, L_mk]
  have hnl : (nums8 T).length = T.length := by simp [nums8]
  rw [if_pos (by rw [hsz]; omega), Option.bind_some, hy, if_pos (by omega), if_pos (by rw [hnl]; omega), hnl]
  have := Fold_l0 T (by omega) hd T.length 0 k (by omega) (by omega) (by simp [run, sp])
  rw [hw] at this
  rw [hf]
  refine Eq.trans this ?_
  rw [show sp false = [] from rfl, List.append_nil, nums8_str]
/-! Folding of texts one behind the other; the reference's Fold as a whole. -/
theorem run_length (l : List UInt8) : ∀ (o : List UInt8) (w : Bool), (run l o w).1.length + (sp (run l o w).2).length ≤ o.length + (sp w).length + l.length := by
  induction l with
  | nil => intro o w; simp [run]
  | cons c t ih =>
    intro o w
    simp only [run]
    split
    · refine Nat.le_trans (ih _ _) ?_
      have : (sp (!o.isEmpty)).length ≤ 1 := by cases o.isEmpty <;> simp [sp]
      simp only [List.length_cons]; omega
    · refine Nat.le_trans (ih _ _) ?_
      simp only [List.length_append, List.length_cons, List.length_nil, show sp false = [] from rfl]; omega
theorem fold_length (l : List UInt8) : (foldV l).length ≤ l.length := by
  have := run_length l [] false
  unfold foldV
  simp only [show sp false = [] from rfl, List.length_nil] at this
  omega
/-- Behind what is out, a space waiting: a run goes on as it would alone. -/
theorem run_behind (o : List UInt8) (ho : o ≠ []) (l : List UInt8) : ∀ (p q : List UInt8) (w v : Bool), (p = [] ∧ w = false ∧ q = o ∧ v = true) ∨ (p ≠ [] ∧ q = o ++ [32] ++ p ∧ v = w) →
    ((run l p w).1 = [] ∧ (run l q v).1 = o) ∨ ((run l p w).1 ≠ [] ∧ (run l q v).1 = o ++ [32] ++ (run l p w).1) := by
  induction l with
  | nil =>
    intro p q w v h
    rcases h with ⟨h1, _, h3, _⟩ | ⟨h1, h2, _⟩
    · exact .inl ⟨h1, h3⟩
    · exact .inr ⟨h1, h2⟩
  | cons c t ih =>
    intro p q w v h
    simp only [run]
    have hoe : (!o.isEmpty) = true := by cases o with
      | nil => exact absurd rfl ho
      | cons _ _ => rfl
    split
    · refine ih _ _ _ _ ?_
      rcases h with ⟨rfl, rfl, rfl, rfl⟩ | ⟨h1, rfl, rfl⟩
      · exact .inl ⟨rfl, rfl, rfl, hoe⟩
      · refine .inr ⟨h1, rfl, ?_⟩
        cases p with
        | nil => exact absurd rfl h1
        | cons _ _ => cases o <;> rfl
    · refine ih _ _ _ _ (.inr ⟨by simp, ?_, rfl⟩)
      rcases h with ⟨rfl, rfl, rfl, rfl⟩ | ⟨h1, rfl, rfl⟩
      · simp [sp]
      · simp
theorem fold_join (a g b : List UInt8) (hg : g ≠ []) (hga : ∀ c ∈ g, gapB c = true) :
    foldV (a ++ g ++ b) = if foldV a = [] then foldV b else if foldV b = [] then foldV a else foldV a ++ [32] ++ foldV b := by
  have e : ∀ (g : List UInt8) (o : List UInt8) (w : Bool), g ≠ [] → (∀ c ∈ g, gapB c = true) → run g o w = (o, !o.isEmpty) := by
    intro g
    induction g with
    | nil => intro o w h _; exact absurd rfl h
    | cons c t ih =>
      intro o w _ h
      simp only [run]
      rw [if_pos (h c (by simp))]
      cases t with
      | nil => rfl
      | cons d u => exact ih o _ (by simp) (fun x hx => h x (by simp [hx]))
  unfold foldV
  rw [run_append, run_append, e g _ _ hg hga]
  generalize (run a [] false).1 = x
  by_cases hx : x = []
  · subst hx
    rw [if_pos rfl]; rfl
  · rw [if_neg hx]
    have hoe : (!x.isEmpty) = true := by cases x with
      | nil => exact absurd rfl hx
      | cons _ _ => rfl
    rw [hoe]
    rcases run_behind x hx b [] x false true (.inl ⟨rfl, rfl, rfl, rfl⟩) with ⟨h1, h2⟩ | ⟨h1, h2⟩
    · rw [if_pos h1, h2]
    · rw [if_neg h1, h2]
theorem ref_Fold_eq (s : ByteArray) (hs : s.size ≤ 140737488351232) (k : Nat) (hk : s.size < k) : emendationref01_Fold.f k s = some ⟨(foldV (L s)).toArray⟩ := by
  unfold emendationref01_Fold.f
  have := ref_Fold_l0 s hs s.size 0 k (⟨#[]⟩ : ByteArray) false (by omega) hk (by decide)
  exact this
theorem Escapes_eq (c : Int) (h0 : 0 ≤ c) (h1 : c < 256) (k : Nat) : utf_Escapes.f (k + 9) c = some (classV c == 4) := by
  unfold utf_Escapes.f
  rw [wrap_small (by omega) (by omega), Class_eq]
  rfl
end Go.Proofs.YtmamjecpjookoaaDoor.Pure
