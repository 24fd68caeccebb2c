/- Words for the laws of this seat, several texts behind one another. -/
import Derived.Test.YtmfffpfenhgjbaaDoorPRead
import Derived.Test.YtmfffpfenhgjbaaDoorPUtf2
import Derived.Test.YtmfffpfenhgjbaaDoorX7
import Derived.Test.YtmfffpfenhgjbaaDoorX6
import Derived.Test.YtmfffpfenhgjbaaDoorBase
import Derived.Test.YtmfffpfenhgjbaaDoorX0
import Derived.Test.YtmfffpfenhgjbaaDoorX5
import Derived.Test.YtmfffpfenhgjbaaDoorGivenDest
import Derived.Test.YtmfffpfenhgjbaaDoorPCheck
import Derived.Test.YtmfffpfenhgjbaaDoorX1
import Derived.Test.YtmfffpfenhgjbaaDoorX2
import Derived.Test.YtmfffpfenhgjbaaDoorGivenStrs
/-! PReadF -/
set_option linter.unusedVariables false
set_option linter.unusedSimpArgs false
namespace Go.Proofs.YtmfffpfenhgjbaaDoor.Pure
open Go.RowKit Go.Lib Go.Proofs.YtmfffpfenhgjbaaDoor.X Go.Proofs.YtmfffpfenhgjbaaDoor.G Go.Proofs.YtmfffpfenhgjbaaDoorW.PrintWords Go.Proofs.YtmfffpfenhgjbaaDoorW.PrintLast Go.Proofs.YtmfffpfenhgjbaaDoorW.PrintMore
theorem run_l0 (s : ByteArray) (hs : s.size ≤ 140737488351232) : ∀ (d k i : Nat), i + d = s.size → d < k → lines_Run.l0 k s 96 (i : Int) = some (((i + ticksL ((L s).drop i) : Nat)) : Int) := by
  intro d
  induction d with
  | zero =>
    intro k i h hk
    obtain ⟨k, rfl⟩ : ∃ m, k = m + 1 := ⟨k - 1, by omega⟩
    rw [lines_Run.l0, if_neg (by omega), List.drop_eq_nil_of_le (by rw [← L_size]; omega)]
    rfl
  | succ d ih =>
    intro k i h hk
    obtain ⟨k, rfl⟩ : ∃ m, k = m + 1 := ⟨k - 1, by omega⟩
    have hl : i < (L s).length := by rw [← L_size]; omega
    rw [lines_Run.l0, if_pos (by omega), if_pos (by omega), List.drop_eq_getElem_cons hl, ticksL, bt_L s i hl]
    by_cases hc : ((L s)[i]).toNat = 96
    · rw [if_pos (by omega), if_pos hc, wrap_small (by omega) (by omega)]
      have := ih k (i + 1) (by omega) (by omega)
      rw [show ((i : Int) + 1) = ((i + 1 : Nat) : Int) from by omega, this]
      congr 2
      omega
    · rw [if_neg (by omega), if_neg hc]
      simp
theorem Run_ticks (s : ByteArray) (k : Nat) (hs : s.size ≤ 140737488351232) (hk : s.size < k) : lines_Run.f k s 96 = some ((ticksL (L s) : Nat) : Int) := by
  have := run_l0 s hs s.size k 0 (by omega) hk
  unfold lines_Run.f
  simpa using this
theorem Ticks_eq (s : ByteArray) (i k : Nat) (hs : s.size ≤ 140737488351232) (hk : s.size < k) : spanin_Ticks.f k s (i : Int) = some ((ticksL ((L s).drop i) : Nat) : Int) := by
  unfold spanin_Ticks.f
  rw [if_neg (by omega)]
  by_cases h : i < s.size
  · rw [if_neg (by omega), if_pos (by omega), if_pos (by omega), Int.toNat_natCast]
    have e := L_from s i
    have hz : (s.extract i s.size).size ≤ s.size := by rw [L_size, e, List.length_drop, ← L_size]; omega
    rw [Run_ticks _ k (by omega) (by omega), e]
    rfl
  · rw [if_pos (by omega), List.drop_eq_nil_of_le (by rw [← L_size]; omega)]
    rfl
/-- Does a byte stand there? -/
def isL (l : List UInt8) (c : Nat) : Bool := match l with | [] => false | b :: _ => b.toNat == c
theorem is_eq (s : ByteArray) (i c : Nat) : spanin_reader_is.f s (i : Int) (c : Int) = some (isL ((L s).drop i) c) := by
  unfold spanin_reader_is.f isL
  by_cases h : i < s.size
  · have hl : i < (L s).length := by rw [← L_size]; omega
    rw [if_pos (by omega), if_pos (by omega), List.drop_eq_getElem_cons hl, bt_L s i hl]
    congr 1
    rw [Bool.eq_iff_iff]
    simp
    omega
  · rw [if_neg (by omega), List.drop_eq_nil_of_le (by rw [← L_size]; omega)]
theorem plain_eq_ (s : ByteArray) (i k : Nat) (hs : s.size ≤ 140737488351232) (hk : s.size < k) : spanin_reader_plain.f k s (i : Int) = some ((max 1 (ticksL ((L s).drop i)) : Nat) : Int) := by
  unfold spanin_reader_plain.f
  rw [Ticks_eq s i k hs hk, Option.bind_some]
  congr 1
  unfold mx
  omega
end Go.Proofs.YtmfffpfenhgjbaaDoor.Pure
/-! PBits -/
set_option linter.unusedSimpArgs false
set_option linter.unusedVariables false
namespace Go.Proofs.YtmfffpfenhgjbaaDoor.Pure
open Go.RowKit Go.Lib Go.Proofs.YtmfffpfenhgjbaaDoor.X Go.Proofs.YtmfffpfenhgjbaaDoorW.PrintWords Go.Proofs.YtmfffpfenhgjbaaDoorW.PrintLast Go.Proofs.YtmfffpfenhgjbaaDoorW.PrintMore
theorem i10 (b : UInt8) : ((b.toNat : Int) = 10) ↔ b.toNat = 10 := by omega
theorem beqF {a b : Nat} (h : a ≠ b) : (a == b) = false := beq_eq_false_iff_ne.2 h
theorem bt_d (s : ByteArray) (i : Nat) (c : UInt8) (t : List UInt8) (h : (L s).drop i = c :: t) : bt s (i : Int) = (c.toNat : Int) := (bt_drop s i h).1
theorem drop_lt {α : Type} {l : List α} {i : Nat} {c : α} {t : List α} (h : l.drop i = c :: t) : i < l.length := by
  rcases Nat.lt_or_ge i l.length with h1 | h1
  · exact h1
  · rw [List.drop_eq_nil_of_le h1] at h; cases h
theorem drop_tail {α : Type} {l : List α} {i : Nat} {c : α} {t : List α} (h : l.drop i = c :: t) : l.drop (i + 1) = t := by
  rw [← List.drop_drop, h]; rfl
theorem drop_nil_len {α : Type} {l : List α} {i : Nat} (h : l.drop i = []) : l.length ≤ i := List.drop_eq_nil_iff.1 h
theorem drop_len {α : Type} {l : List α} {i : Nat} {t : List α} (h : l.drop i = t) : t.length = l.length - i := by rw [← h, List.length_drop]
end Go.Proofs.YtmfffpfenhgjbaaDoor.Pure
/-! PDest -/
set_option linter.unusedSimpArgs false
set_option linter.unusedVariables false
namespace Go.Proofs.YtmfffpfenhgjbaaDoor.Pure
open Go.RowKit Go.Lib Go.Proofs.YtmfffpfenhgjbaaDoor.X Go.Proofs.YtmfffpfenhgjbaaDoor.G Go.Proofs.YtmfffpfenhgjbaaDoorW.PrintWords Go.Proofs.YtmfffpfenhgjbaaDoorW.PrintLast Go.Proofs.YtmfffpfenhgjbaaDoorW.PrintMore
theorem dest_l1 (s set : ByteArray) (i : Int) (b : UInt8) (hset : set.size ≤ 140737488351232) : ∀ (d j k : Nat) (x : Bool), j + d = set.size → d < k →
    emendationref07_Dest.l1 k s i (b.toNat : Int) x set (j : Int) = (if (x || ((L set).drop j).contains b) = true then emendationref07_Dest.l0 (k - d - 1) s (wrap64 (i + 1)) else some false) := by
  have hsl : set.size = (L set).length := L_size set
  intro d
  induction d with
  | zero =>
    intro j k x hj hk
    obtain ⟨k, rfl⟩ : ∃ m, k = m + 1 := ⟨k - 1, by omega⟩
    rw [emendationref07_Dest.l1, if_neg (by omega), List.drop_eq_nil_of_le (by omega)]
    simp
  | succ d ih =>
    intro j k x hj hk
    obtain ⟨k, rfl⟩ : ∃ m, k = m + 1 := ⟨k - 1, by omega⟩
    have q1 : (j : Int) < (set.size : Int) := by omega
    have hw1 : wrap64 ((j : Int) + 1) = ((j + 1 : Nat) : Int) := by rw [wrap_small (by omega) (by omega)]; omega
    have hk2 : k + 1 - (d + 1) - 1 = k - d - 1 := by omega
    obtain ⟨c, t, hd⟩ : ∃ c t, (L set).drop j = c :: t := by
      rw [List.drop_eq_getElem_cons (by omega)]; exact ⟨_, _, rfl⟩
    have hx := fun x => ih (j + 1) k x (by omega) (by omega)
    rw [emendationref07_Dest.l1, if_pos q1, hw1, hk2, hx, if_pos (Int.natCast_nonneg j), hx, bt_d set j c t hd, drop_tail hd, hd, List.contains_cons]
    cases x with
    | true => simp
    | false =>
      rw [if_neg (by decide)]
      have : ((b.toNat : Int) == (c.toNat : Int)) = (b == c) := by
        by_cases e : b = c
        · subst e; simp
        · have e2 : ((b.toNat : Int) == (c.toNat : Int)) = false := beq_eq_false_iff_ne.2 (fun q => e (toNat_inj (Int.ofNat.inj q)))
          rw [beq_eq_false_iff_ne.2 e, e2]
      rw [this, Bool.false_or]
def destSet : ByteArray := ⟨#[46, 47, 95, 45, 35, 63, 38, 58, 37]⟩
def alnum (b : UInt8) : Bool := (97 ≤ b.toNat && b.toNat ≤ 122) || (65 ≤ b.toNat && b.toNat ≤ 90) || (48 ≤ b.toNat && b.toNat ≤ 57)
theorem letters_eq (b : UInt8) : letters.data.toList.contains b = (alnum b || (L destSet).contains b) := by
  have h : ∀ n : Fin 256, letters.data.toList.contains (UInt8.ofNat n.val) = (alnum (UInt8.ofNat n.val) || (L destSet).contains (UInt8.ofNat n.val)) := by decide +kernel
  have := h ⟨b.toNat, b.toNat_lt⟩
  simpa using this
section
variable (s : ByteArray) (hs : s.size ≤ 140737488351232)
include hs
theorem ref_dest_l0 : ∀ (d i k : Nat), i + d = (L s).length → 20 * d + 1 < k →
    emendationref07_Dest.l0 k s (i : Int) = some (!(L s).isEmpty && ((L s).drop i).all (fun b => letters.data.toList.contains b)) := by
  have hsl : s.size = (L s).length := L_size s
  intro d
  induction d with
  | zero =>
    intro i k hi hk
    obtain ⟨k, rfl⟩ : ∃ m, k = m + 1 := ⟨k - 1, by omega⟩
    rw [emendationref07_Dest.l0, if_neg (by omega), List.drop_eq_nil_of_le (by omega), L_toList]
    cases L s with
    | nil => rfl
    | cons => rfl
  | succ d ih =>
    intro i k hi hk
    obtain ⟨k, rfl⟩ : ∃ m, k = m + 12 := ⟨k - 12, by omega⟩
    have q1 : (i : Int) < (s.size : Int) := by omega
    have hw1 : wrap64 ((i : Int) + 1) = ((i + 1 : Nat) : Int) := by rw [wrap_small (by omega) (by omega)]; omega
    have hx := ih (i + 1) k (by omega) (by omega)
    obtain ⟨b, t, hd⟩ : ∃ b t, (L s).drop i = b :: t := by
      rw [List.drop_eq_getElem_cons (by omega)]; exact ⟨_, _, rfl⟩
    rw [drop_tail hd] at hx
    have hj : ∀ x : Bool, emendationref07_Dest.j1 (k + 11) s (i : Int) (b.toNat : Int) x = some (!(L s).isEmpty && ((x || (L destSet).contains b) && t.all (fun b => letters.data.toList.contains b))) := by
      intro x
      have h1 := dest_l1 s destSet (i : Int) b (by decide) 9 0 (k + 10) x rfl (by omega)
      rw [show k + 10 - 9 - 1 = k by omega, hw1, hx, List.drop_zero] at h1
      rw [emendationref07_Dest.j1]
      refine h1.trans ?_
      cases (x || (L destSet).contains b) with
      | true => simp
      | false => simp
    rw [emendationref07_Dest.l0, if_pos q1, if_pos (Int.natCast_nonneg i), bt_d s i b t hd, hd, hj, hj, hj, List.all_cons, letters_eq b]
    have hlt := b.toNat_lt
    have ha : ∀ x y : Bool, x = y → some (!(L s).isEmpty && ((x || (L destSet).contains b) && t.all (fun b => letters.data.toList.contains b))) = some (!(L s).isEmpty && ((y || (L destSet).contains b) && t.all (fun b => letters.data.toList.contains b))) := by
      intro x y e; rw [e]
    unfold alnum
    generalize b.toNat = n at *
    repeat' split
    all_goals (refine ha _ _ ?_)
    all_goals (clear ha hj hx ih q1 hw1 hd hs hsl hi)
    all_goals (first | (symm; simp only [Bool.or_eq_true, Bool.and_eq_true, decide_eq_true_eq]; omega) | skip)
    all_goals (rw [Bool.eq_iff_iff]; simp only [Bool.or_eq_true, Bool.and_eq_true, decide_eq_true_eq, Bool.false_eq_true, iff_true, true_iff, false_iff]; omega)
theorem ref_dest_eq (k : Nat) (hk : 20 * s.size + 1 < k) : emendationref07_Dest.f k s = some (destL (L s)) := by
  have hsl : s.size = (L s).length := L_size s
  have := ref_dest_l0 s hs (L s).length 0 k (by omega) (by omega)
  rw [List.drop_zero] at this
  exact this
end
theorem span_dest_eq (s : ByteArray) : span_Dest.f s = some (destL (L s)) := rfl
end Go.Proofs.YtmfffpfenhgjbaaDoor.Pure
/-! PSpanTP -/
set_option linter.unusedSimpArgs false
set_option linter.unusedVariables false
namespace Go.Proofs.YtmfffpfenhgjbaaDoor.Pure
open Go.RowKit Go.Lib Go.Proofs.YtmfffpfenhgjbaaDoor.X Go.Proofs.YtmfffpfenhgjbaaDoor.G Go.Proofs.YtmfffpfenhgjbaaDoorW.PrintWords Go.Proofs.YtmfffpfenhgjbaaDoorW.PrintLast Go.Proofs.YtmfffpfenhgjbaaDoorW.PrintMore
/-- The class of a character, as a number. -/
def classV (c : Int) : Int := if c = 10 ∨ c = 13 then 3 else if c = 9 ∨ c = 32 then 2 else if (33 ≤ c ∧ c ≤ 47) ∨ (58 ≤ c ∧ c ≤ 64) ∨ (91 ≤ c ∧ c ≤ 96) ∨ (123 ≤ c ∧ c ≤ 126) then 4 else 1
theorem Class_eq (c : Int) (k : Nat) : utf_Class.f (k + 9) c = some (classV c) := by
  unfold utf_Class.f classV
  simp only [utf_Class.j0, utf_Class.j1, utf_Class.j2, utf_Class.j3, utf_Class.j4, beq_iff_eq, decide_eq_true_eq, Bool.false_eq_true, if_true, if_false]
  have hr : c < 9 ∨ c = 9 ∨ c = 10 ∨ (10 < c ∧ c < 13) ∨ c = 13 ∨ (13 < c ∧ c < 32) ∨ c = 32 ∨ (33 ≤ c ∧ c ≤ 47) ∨ (48 ≤ c ∧ c ≤ 57) ∨ (58 ≤ c ∧ c ≤ 64) ∨ (65 ≤ c ∧ c ≤ 90) ∨ (91 ≤ c ∧ c ≤ 96) ∨ (97 ≤ c ∧ c ≤ 122) ∨ (123 ≤ c ∧ c ≤ 126) ∨ 127 ≤ c := by omega
  rcases hr with h | h | h | h | h | h | h | h | h | h | h | h | h | h | h
  all_goals (repeat (first | rw [if_pos (by omega)] | rw [if_neg (by omega)]))
theorem class_space (b : UInt8) : classV (b.toNat : Int) = 2 ↔ (b.toNat = 9 ∨ b.toNat = 32) := by
  have h : ∀ n : Fin 256, classV ((n.val : Nat) : Int) = 2 ↔ (n.val = 9 ∨ n.val = 32) := by decide +kernel
  exact h ⟨b.toNat, b.toNat_lt⟩
theorem class_more (b : UInt8) : (classV (b.toNat : Int) = 1 ∨ classV (b.toNat : Int) = 4) ↔ ¬ (b.toNat = 9 ∨ b.toNat = 32 ∨ b.toNat = 10 ∨ b.toNat = 13) := by
  have h : ∀ n : Fin 256, (classV ((n.val : Nat) : Int) = 1 ∨ classV ((n.val : Nat) : Int) = 4) ↔ ¬ (n.val = 9 ∨ n.val = 32 ∨ n.val = 10 ∨ n.val = 13) := by decide +kernel
  exact h ⟨b.toNat, b.toNat_lt⟩
/-- Two bytes that can stand beside each other in a Text. -/
def pairOk (c n : UInt8) : Bool := !(c.toNat == 10 && (n.toNat == 9 || n.toNat == 32 || n.toNat == 10 || n.toNat == 13)) && !(n.toNat == 10 && (c.toNat == 9 || c.toNat == 32))
def pairs : List UInt8 → Bool
  | c :: n :: t => pairOk c n && pairs (n :: t)
  | _ => true
/-- Whether a text can read so. -/
def textV (l : List UInt8) : Bool := !l.isEmpty && !l.contains 13 && pairs l
theorem rd_bytes (l : List UInt8) (s : ByteArray) (e : L s = l) (i : Nat) (c : UInt8) (h : l[i]? = some c) : rd (Go.Proofs.YtmfffpfenhgjbaaDoorW.PrintWords.bytesOf s) (i : Int) = (c.toNat : Int) := by
  subst e
  unfold rd Go.Proofs.YtmfffpfenhgjbaaDoorW.PrintWords.bytesOf
  unfold L at h
  rw [Int.toNat_natCast, List.getD_eq_getElem?_getD, List.getElem?_map, h]
  rfl
section
variable (s : ByteArray) (hs : s.size ≤ 140737488351232)
include hs
theorem text_l0 (u : ByteArray) (hu : L u = (L s).take ((L s).length - 1)) : ∀ (d i k : Nat), i + d = (L s).length - 1 → d * 2 + 20 < k → 0 < (L s).length →
    span_text.l0 k s (Go.Proofs.YtmfffpfenhgjbaaDoorW.PrintWords.bytesOf u) (((L s).length - 1 : Nat) : Int) (i : Int) = some (pairs ((L s).drop i)) := by
  have hsl : s.size = (L s).length := L_size s
  have hbl : (Go.Proofs.YtmfffpfenhgjbaaDoorW.PrintWords.bytesOf u).length = (L s).length - 1 := by
    rw [Go.Proofs.YtmfffpfenhgjbaaDoorW.PrintWords.bytesOf_length, L_size, hu, List.length_take]; omega
  intro d
  induction d with
  | zero =>
    intro i k hi hk h0
    obtain ⟨k, rfl⟩ : ∃ m, k = m + 1 := ⟨k - 1, by omega⟩
    simp only [span_text.l0]
    rw [if_neg (by omega)]
    cases hd : (L s).drop i with
    | nil => rfl
    | cons c t =>
      have := drop_len hd
      cases t with
      | nil => rfl
      | cons n t => simp at this; omega
  | succ d ih =>
    intro i k hi hk h0
    obtain ⟨k, rfl⟩ : ∃ m, k = m + 2 := ⟨k - 2, by omega⟩
    have hil : i + 1 < (L s).length := by omega
    have q1 : (i : Int) < (((L s).length - 1 : Nat) : Int) := by omega
    have q2 : (0 : Int) ≤ (i : Int) := by omega
    have q3 : (i : Int) < ((Go.Proofs.YtmfffpfenhgjbaaDoorW.PrintWords.bytesOf u).length : Int) := by rw [hbl]; exact q1
    have q4 : (0 : Int) ≤ ((i + 1 : Nat) : Int) := by omega
    have q5 : ((i + 1 : Nat) : Int) < (s.size : Int) := by omega
    obtain ⟨c, n, t, hd⟩ : ∃ c n t, (L s).drop i = c :: n :: t := by
      rw [List.drop_eq_getElem_cons (by omega), List.drop_eq_getElem_cons hil]
      exact ⟨_, _, _, rfl⟩
    have hd1 := drop_tail hd
    have hc : rd (Go.Proofs.YtmfffpfenhgjbaaDoorW.PrintWords.bytesOf u) (i : Int) = (c.toNat : Int) := by
      refine rd_bytes _ u hu i c ?_
      rw [List.getElem?_take_of_lt (by omega)]
      have := congrArg (fun l => l[0]?) hd
      simpa using this
    have hn : bt s ((i + 1 : Nat) : Int) = (n.toNat : Int) := bt_d s (i + 1) n t hd1
    have hw1 : wrap64 ((i : Int) + 1) = ((i + 1 : Nat) : Int) := by rw [wrap_small (by omega) (by omega)]; omega
    have hwn : wrap64 (n.toNat : Int) = (n.toNat : Int) := by have := n.toNat_lt; exact wrap_small (by omega) (by omega)
    have hwc : wrap64 (c.toNat : Int) = (c.toNat : Int) := by have := c.toNat_lt; exact wrap_small (by omega) (by omega)
    have hnx : span_text.l0 k s (Go.Proofs.YtmfffpfenhgjbaaDoorW.PrintWords.bytesOf u) (((L s).length - 1 : Nat) : Int) ((i + 1 : Nat) : Int) = some (pairs ((L s).drop (i + 1))) := ih (i + 1) k (by omega) (by omega) h0
    have hj : ∀ b : Bool, span_text.j2 (k + 1) s (c.toNat : Int) (n.toNat : Int) (Go.Proofs.YtmfffpfenhgjbaaDoorW.PrintWords.bytesOf u) (((L s).length - 1 : Nat) : Int) (i : Int) b = some (!b && !(n.toNat == 10 && (c.toNat == 9 || c.toNat == 32)) && pairs (n :: t)) := by
      intro b
      obtain ⟨m, rfl⟩ : ∃ m, k = m + 9 := ⟨k - 9, by omega⟩
      simp only [span_text.j2]
      cases b with
      | true => rfl
      | false =>
        rw [if_neg (by decide), hwc, Class_eq, Option.bind_some, hw1, hnx, hd1]
        have h2 := class_space c
        by_cases g : n.toNat = 10
        · rw [if_pos ((i10 n).2 g)]
          by_cases g2 : c.toNat = 9 ∨ c.toNat = 32
          · rw [if_pos (h2.2 g2)]; rcases g2 with g2 | g2 <;> simp [g, g2]
          · rw [if_neg (fun e => g2 (h2.1 e))]
            have a1 : c.toNat ≠ 9 := fun e => g2 (.inl e)
            have a2 : c.toNat ≠ 32 := fun e => g2 (.inr e)
            simp [g, beqF a1, beqF a2]
        · rw [if_neg (fun e => g ((i10 n).1 e))]; simp [beqF g]
    rw [span_text.l0]
    rw [if_pos q1, if_pos q2, if_pos q3, hw1, if_pos q4, if_pos q5, hc, hn, hwn, hd]
    obtain ⟨m, rfl⟩ : ∃ m, k = m + 9 := ⟨k - 9, by omega⟩
    have hcl := class_more n
    by_cases g : c.toNat = 10
    · rw [if_pos ((i10 c).2 g), Class_eq, Option.bind_some]
      simp only [pairs, pairOk]
      by_cases g1 : classV (n.toNat : Int) = 1
      · rw [if_pos g1, hj]
        have := hcl.1 (.inl g1)
        have b1 : n.toNat ≠ 9 := fun e => this (by simp [e])
        have b2 : n.toNat ≠ 32 := fun e => this (by simp [e])
        have b3 : n.toNat ≠ 10 := fun e => this (by simp [e])
        have b4 : n.toNat ≠ 13 := fun e => this (by simp [e])
        simp [beqF b1, beqF b2, beqF b3, beqF b4]
      · rw [if_neg g1, Option.bind_some, hj]
        by_cases g4 : classV (n.toNat : Int) = 4
        · have := hcl.1 (.inr g4)
          have b1 : n.toNat ≠ 9 := fun e => this (by simp [e])
          have b2 : n.toNat ≠ 32 := fun e => this (by simp [e])
          have b3 : n.toNat ≠ 10 := fun e => this (by simp [e])
          have b4 : n.toNat ≠ 13 := fun e => this (by simp [e])
          simp [beqF b1, beqF b2, beqF b3, beqF b4, g4]
        · have h1 : n.toNat = 9 ∨ n.toNat = 32 ∨ n.toNat = 10 ∨ n.toNat = 13 := Classical.byContradiction fun e => by
            rcases hcl.2 e with q | q
            · exact g1 q
            · exact g4 q
          have g5 : (classV (n.toNat : Int) != 4) = true := bne_iff_ne.2 g4
          rw [g5]
          rcases h1 with h1 | h1 | h1 | h1 <;> simp [g, h1]
    · rw [if_neg (fun e => g ((i10 c).1 e)), hj]
      simp [pairs, pairOk, beqF g]
theorem span_text_eq (k : Nat) (hk : 2 * s.size + 30 < k) : span_text.f k s = some (textV (L s)) := by
  have hsl : s.size = (L s).length := L_size s
  obtain ⟨k, rfl⟩ : ∃ m, k = m + 1 := ⟨k - 1, by omega⟩
  unfold span_text.f textV
  rw [L_toList]
  by_cases h : L s = []
  · rw [if_pos h, h]; rfl
  rw [if_neg h]
  have h0 : 0 < (L s).length := List.length_pos_iff.2 h
  unfold strings_ContainsRune.f
  rw [if_pos (by omega), Option.bind_some]
  have hc : decide (0 ≤ Lib.indexByte s.data.toList (13 : Int).toNat.toUInt8) = (L s).contains 13 := (contains_iff_indexByte (L s) 13).symm
  rw [hc]
  have he : (L s).isEmpty = false := by cases hL : L s with | nil => exact absurd hL h | cons => rfl
  simp only [span_text.j0]
  rw [he]
  cases hb : (L s).contains 13 with
  | true => rfl
  | false =>
    have hw : wrap64 ((s.size : Int) - 1) = (((L s).length - 1 : Nat) : Int) := by rw [wrap_small (by omega) (by omega)]; omega
    have hu : L (s.extract 0 ((L s).length - 1)) = (L s).take ((L s).length - 1) := L_upto s _
    rw [if_neg (by decide), hw, if_pos (by omega), if_pos (by omega), Int.toNat_natCast, if_pos (by rw [L_size, hu, List.length_take]; omega), Option.bind_some, Go.Proofs.YtmfffpfenhgjbaaDoorW.PrintWords.bytesOf_length]
    have h2 : ((s.extract 0 ((L s).length - 1)).size : Int) = (((L s).length - 1 : Nat) : Int) := by rw [L_size, hu, List.length_take]; omega
    rw [h2]
    have := text_l0 s hs (s.extract 0 ((L s).length - 1)) hu ((L s).length - 1) 0 k (by omega) (by omega) h0
    rw [List.drop_zero] at this
    exact this
end
theorem edge_eq (b : UInt8) : span_edge.f (b.toNat : Int) = some (b.toNat == 9 || b.toNat == 32 || b.toNat == 10) := by
  unfold span_edge.f
  by_cases h : b.toNat = 32
  · rw [if_pos (by omega)]; simp [h]
  · rw [if_neg (by omega)]
    by_cases g : b.toNat = 9
    · rw [if_pos (by omega)]; simp [g]
    · rw [if_neg (by omega)]
      by_cases f : b.toNat = 10
      · simp [f]
      · have : ((b.toNat : Int) == 10) = false := beq_eq_false_iff_ne.2 (by omega)
        simp [this, beqF h, beqF g, beqF f]
end Go.Proofs.YtmfffpfenhgjbaaDoor.Pure
/-! PReadG -/
set_option linter.unusedVariables false
set_option linter.unusedSimpArgs false
namespace Go.Proofs.YtmfffpfenhgjbaaDoor.Pure
open Go.RowKit Go.Lib Go.Proofs.YtmfffpfenhgjbaaDoor.X Go.Proofs.YtmfffpfenhgjbaaDoor.G Go.Proofs.YtmfffpfenhgjbaaDoorW.PrintWords Go.Proofs.YtmfffpfenhgjbaaDoorW.PrintLast Go.Proofs.YtmfffpfenhgjbaaDoorW.PrintMore
theorem class_mark (b : UInt8) : (classV (b.toNat : Int) == 4) = markB b := by
  have h : ∀ n : Fin 256, (classV ((n.val : Nat) : Int) == 4) = ((32 < n.val && n.val < 48) || (57 < n.val && n.val < 65) || (90 < n.val && n.val < 97) || (122 < n.val && n.val ≤ 126)) := by decide +kernel
  exact h ⟨b.toNat, b.toNat_lt⟩
theorem escapes_eq (b : UInt8) (k : Nat) : utf_Escapes.f (k + 9) (b.toNat : Int) = some (markB b) := by
  have hb := b.toNat_lt
  unfold utf_Escapes.f
  rw [wrap_small (by omega) (by omega), Class_eq, Option.bind_some, class_mark]
theorem mem_dropW {p : UInt8 → Bool} {b : UInt8} (hp : p b = false) : ∀ l : List UInt8, b ∈ l → b ∈ l.dropWhile p
  | [], h => by cases h
  | c :: t, h => by
    rw [List.dropWhile_cons]
    by_cases hc : p c = true
    · rw [if_pos hc]
      rcases List.mem_cons.1 h with rfl | h
      · rw [hp] at hc; cases hc
      · exact mem_dropW hp t h
    · rw [if_neg hc]; exact h
theorem dropW_nil {p : UInt8 → Bool} : ∀ l : List UInt8, (∀ b ∈ l, p b = true) → l.dropWhile p = []
  | [], _ => rfl
  | c :: t, h => by
    rw [List.dropWhile_cons, if_pos (h c List.mem_cons_self)]
    exact dropW_nil t (fun b hb => h b (List.mem_cons_of_mem _ hb))
theorem trim_empty (l : List UInt8) : (Lib.trimS l [32] = []) ↔ l.any (fun c => c != 32) = false := by
  constructor
  · intro h
    rw [Bool.eq_false_iff]
    intro ha
    obtain ⟨b, hb, hne⟩ := List.any_eq_true.1 ha
    have hp : ([32] : List UInt8).contains b = false := by
      rw [Lib.contains_one]
      simpa using hne
    have h1 : b ∈ Lib.trimRightS l [32] := List.mem_reverse.2 (mem_dropW hp _ (List.mem_reverse.2 hb))
    have h2 : b ∈ Lib.trimS l [32] := mem_dropW hp _ h1
    rw [h] at h2
    cases h2
  · intro h
    have ha : ∀ b ∈ l, ([32] : List UInt8).contains b = true := by
      intro b hb
      rw [Lib.contains_one]
      rw [List.any_eq_false] at h
      have := h b hb
      simpa using this
    unfold Lib.trimS Lib.trimRightS Lib.trimLeftS
    rw [dropW_nil l.reverse (fun b hb => ha b (List.mem_reverse.1 hb))]
    rfl
theorem strip_eq (s : ByteArray) (hs : s.size ≤ 1000000) : spanin_strip.f s = some ⟨(stripL (L s)).toArray⟩ := by
  have hl := L_size s
  unfold spanin_strip.f stripL
  by_cases h2 : (s.size : Int) > 2
  · have w1 : wrap64 ((s.size : Int) - 1) = ((s.size - 1 : Nat) : Int) := by rw [wrap_small (by omega) (by omega)]; omega
    obtain ⟨b, r, hb⟩ : ∃ b r, L s = b :: r := by
      cases h : L s with
      | nil => rw [h, List.length_nil] at hl; omega
      | cons b r => exact ⟨b, r, rfl⟩
    have hbt : bt s 0 = (b.toNat : Int) := (bt_drop s 0 (by rw [List.drop_zero]; exact hb)).1
    have hlt : s.size - 1 < (L s).length := by omega
    have hbl : bt s ((s.size - 1 : Nat) : Int) = (((L s)[s.size - 1]).toNat : Int) := bt_L s _ hlt
    have hgl : (L s).getLast? = some (L s)[s.size - 1] := by rw [List.getLast?_eq_getElem?, ← hl, List.getElem?_eq_getElem hlt]
    have hhd : (L s).head? = some b := by rw [hb]; rfl
    have hz : (32 : UInt8).toNat = 32 := rfl
    rw [if_pos h2, if_pos (by omega), hbt, w1, hbl, hgl, hhd]
    by_cases c1 : (b.toNat : Int) = 32
    · have e1 : b = 32 := toNat_inj (by omega)
      rw [if_pos c1, if_pos (by omega), if_pos (by omega)]
      by_cases c2 : (((L s)[s.size - 1]).toNat : Int) = 32
      · have e2 : (L s)[s.size - 1] = 32 := toNat_inj (by omega)
        have ht : strings_Trim.f s ⟨#[32]⟩ = some ⟨(Lib.trimS (L s) [32]).toArray⟩ := by
          unfold strings_Trim.f
          exact if_pos ⟨by omega, by decide, by decide⟩
        rw [if_pos c2, ht, Option.bind_some, L_toList, L_mk]
        by_cases c3 : Lib.trimS (L s) [32] = []
        · have := (trim_empty (L s)).1 c3
          rw [if_pos c3, if_neg (by rw [this]; simp), L_mk']
        · have h3 : (L s).any (fun c => c != 32) = true := by
            cases h : (L s).any (fun c => c != 32) with
            | true => rfl
            | false => exact absurd ((trim_empty (L s)).2 h) c3
          rw [if_neg c3, if_pos (by omega), if_pos (by omega), if_pos ⟨congrArg some e1, congrArg some e2, h3⟩, Int.toNat_natCast]
          congr 1
          apply L_ext
          show L (s.extract 1 (s.size - 1)) = L ⟨_⟩
          refine Eq.trans (L_extract _ _ _) (Eq.trans ?_ (L_mk _).symm)
          rw [List.dropLast_eq_take, List.length_drop, ← hl]
      · rw [if_neg c2, if_neg (fun h => c2 (by rw [Option.some.inj h.2.1]; rfl)), L_mk']
    · rw [if_neg c1, if_neg (fun h => c1 (by rw [Option.some.inj h.1]; rfl)), L_mk']
  · rw [if_neg h2, if_neg, L_mk']
    rintro ⟨h3, h4, h5⟩
    cases hx : L s with
    | nil => rw [hx] at h3; cases h3
    | cons b r =>
      rw [hx] at h3 h4 h5 hl
      cases r with
      | nil =>
        have : b = 32 := Option.some.inj h3
        subst this
        cases h5
      | cons c r =>
        cases r with
        | nil =>
          have e1 : b = 32 := Option.some.inj h3
          have e2 : c = 32 := Option.some.inj h4
          subst e1
          subst e2
          cases h5
        | cons d r => simp at hl; omega
end Go.Proofs.YtmfffpfenhgjbaaDoor.Pure
/-! PReadH -/
set_option linter.unusedVariables false
set_option linter.unusedSimpArgs false
namespace Go.Proofs.YtmfffpfenhgjbaaDoor.Pure
open Go.RowKit Go.Lib Go.Proofs.YtmfffpfenhgjbaaDoor.X Go.Proofs.YtmfffpfenhgjbaaDoor.G Go.Proofs.YtmfffpfenhgjbaaDoorW.PrintWords Go.Proofs.YtmfffpfenhgjbaaDoorW.PrintLast Go.Proofs.YtmfffpfenhgjbaaDoorW.PrintMore
/-- The bytes of a place to go to. -/
def dstB (c : UInt8) : Bool := letters.data.toList.contains c
theorem destL_one (b : UInt8) : destL [b] = dstB b := by unfold destL dstB; simp
def destEnd (s : ByteArray) (p j : Nat) : ByteArray × Int × Bool :=
  if j = p + 1 then (⟨#[]⟩, (p : Int), false) else if isL ((L s).drop j) 41 = true then (s.extract (p + 1) j, ((j + 1 : Nat) : Int), true) else (⟨#[]⟩, (p : Int), false)
theorem dest_end (s : ByteArray) (p j : Nat) (hs : s.size ≤ 1000000) (hp : p < s.size) (h : p + 1 ≤ j) (hj : j ≤ s.size) :
    (if (j : Int) = (wrap64 ((p : Int) + 1)) then (some ((⟨#[]⟩ : ByteArray), (p : Int), false)) else ((spanin_reader_is.f s (j : Int) 41).bind fun t137 => (if t137 = true then (if 0 ≤ (wrap64 ((p : Int) + 1)) then (if (wrap64 ((p : Int) + 1)) ≤ (j : Int) then (if (j : Int) ≤ (s.size : Int) then (some (s.extract ((wrap64 ((p : Int) + 1)) : Int).toNat ((j : Int) : Int).toNat, wrap64 ((j : Int) + 1), true)) else (none)) else (none)) else (none)) else (some ((⟨#[]⟩ : ByteArray), (p : Int), false))))) = some (destEnd s p j) := by
  have w1 : wrap64 ((p : Int) + 1) = ((p + 1 : Nat) : Int) := by rw [wrap_small (by omega) (by omega)]; omega
  have w2 : wrap64 ((j : Int) + 1) = ((j + 1 : Nat) : Int) := by rw [wrap_small (by omega) (by omega)]; omega
  have hi := is_eq s j 41
  change spanin_reader_is.f s (j : Int) 41 = _ at hi
  unfold destEnd
  rw [w1, w2, hi, Option.bind_some]
  by_cases h1 : j = p + 1
  · rw [if_pos (by omega), if_pos h1]
  · rw [if_neg (by omega), if_neg h1]
    by_cases h2 : isL ((L s).drop j) 41 = true
    · rw [if_pos h2, if_pos h2, if_pos (by omega), if_pos (by omega), if_pos (by omega), Int.toNat_natCast, Int.toNat_natCast]
    · rw [if_neg h2, if_neg h2]
theorem dest_l0 (s : ByteArray) (p : Nat) (hs : s.size ≤ 1000000) (hp : p < s.size) : ∀ (d k i : Nat), i + d = s.size → d < k → p + 1 ≤ i → spanin_reader_dest.l0 k (p : Int) (i : Int) s = some (destEnd s p (i + (((L s).drop i).takeWhile dstB).length)) := by
  intro d
  induction d with
  | zero =>
    intro k i h hk hi
    obtain ⟨k, rfl⟩ : ∃ m, k = m + 1 := ⟨k - 1, by omega⟩
    rw [spanin_reader_dest.l0, if_neg (by omega), List.drop_eq_nil_of_le (by rw [← L_size]; omega)]
    exact dest_end s p i hs hp hi (by omega)
  | succ d ih =>
    intro k i h hk hi
    obtain ⟨k, rfl⟩ : ∃ m, k = m + 1 := ⟨k - 1, by omega⟩
    have hl : i < (L s).length := by rw [← L_size]; omega
    have w1 : wrap64 ((i : Int) + 1) = ((i + 1 : Nat) : Int) := by rw [wrap_small (by omega) (by omega)]; omega
    have hx : L (s.extract i (i + 1)) = [(L s)[i]] := by
      rw [L_extract, List.drop_eq_getElem_cons hl, show i + 1 - i = 1 from by omega]
      rfl
    rw [spanin_reader_dest.l0, if_pos (by omega), if_pos (by omega), w1, if_pos (by omega), if_pos (by omega), Int.toNat_natCast, Int.toNat_natCast, span_dest_eq, hx, Option.bind_some, List.drop_eq_getElem_cons hl, List.takeWhile_cons]
    rw [destL_one]
    by_cases hc : dstB (L s)[i] = true
    · rw [if_pos hc, if_pos hc, ih k (i + 1) (by omega) (by omega) (by omega), List.length_cons]
      congr 2
      omega
    · rw [if_neg hc, if_neg hc, List.length_nil, Nat.add_zero]
      have he := dest_end s p i hs hp hi (by omega)
      rw [w1, Int.toNat_natCast] at he
      exact he
/-- A link's place, as reader.dest answers it. -/
theorem dest_eq (s : ByteArray) (p k : Nat) (hs : s.size ≤ 1000000) (hk : s.size < k) : ∃ (t : ByteArray) (nx : Int) (ok : Bool), spanin_reader_dest.f k s (p : Int) = some (t, nx, ok) ∧
    match toL dstB ((L s).drop p) with | some (b, l) => ok = true ∧ t = ⟨b.toArray⟩ ∧ nx = ((s.size - l.length : Nat) : Int) | none => ok = false := by
  have hi := is_eq s p 40
  change spanin_reader_is.f s (p : Int) 40 = _ at hi
  unfold spanin_reader_dest.f
  rw [hi, Option.bind_some]
  by_cases hp : p < s.size
  · have hl : p < (L s).length := by rw [← L_size]; omega
    have hdr : (L s).drop p = (L s)[p] :: (L s).drop (p + 1) := List.drop_eq_getElem_cons hl
    rw [hdr]
    by_cases hc : (L s)[p].toNat = 40
    · have h1 : isL ((L s)[p] :: (L s).drop (p + 1)) 40 = true := by unfold isL; simp [hc]
      have w1 : wrap64 ((p : Int) + 1) = ((p + 1 : Nat) : Int) := by rw [wrap_small (by omega) (by omega)]; omega
      rw [if_pos h1, w1, dest_l0 s p hs hp (s.size - (p + 1)) k (p + 1) (by omega) (by omega) (by omega)]
      refine ⟨(destEnd s p (p + 1 + (((L s).drop (p + 1)).takeWhile dstB).length)).1, (destEnd s p (p + 1 + (((L s).drop (p + 1)).takeWhile dstB).length)).2.1, (destEnd s p (p + 1 + (((L s).drop (p + 1)).takeWhile dstB).length)).2.2, rfl, ?_⟩
      have hsp := List.takeWhile_append_dropWhile (p := dstB) (l := (L s).drop (p + 1))
      have hlen : ((L s).drop (p + 1)).length = s.size - (p + 1) := by rw [List.length_drop, ← L_size]
      have hT : toL dstB ((L s)[p] :: (L s).drop (p + 1)) = if ((L s).drop (p + 1)).takeWhile dstB = [] then none else match ((L s).drop (p + 1)).dropWhile dstB with | e :: r => if e.toNat = 41 then some (((L s).drop (p + 1)).takeWhile dstB, r) else none | [] => none := by
        unfold toL
        by_cases h0 : ((L s).drop (p + 1)).takeWhile dstB = []
        · rw [if_pos h0]
          exact if_neg (fun h => h.2 h0)
        · rw [if_neg h0]
          exact if_pos ⟨hc, h0⟩
      rw [hT]
      clear hT
      generalize ((L s).drop (p + 1)).takeWhile dstB = tk at *
      generalize ((L s).drop (p + 1)).dropWhile dstB = dw at *
      have hj : (L s).drop (p + 1 + tk.length) = dw := by rw [← List.drop_drop, ← hsp, List.drop_left]
      have hxt : L (s.extract (p + 1) (p + 1 + tk.length)) = tk := by rw [L_extract, show p + 1 + tk.length - (p + 1) = tk.length from by omega, ← hsp, List.take_left]
      have hl2 : tk.length + dw.length = s.size - (p + 1) := by rw [← hlen, ← hsp, List.length_append]
      by_cases h0 : tk = []
      · have hE : destEnd s p (p + 1 + tk.length) = (⟨#[]⟩, (p : Int), false) := by unfold destEnd; rw [if_pos (by rw [h0]; rfl)]
        rw [if_pos h0, hE]
      · have h0l : 0 < tk.length := List.length_pos_iff.2 h0
        rw [if_neg h0]
        cases dw with
        | nil =>
          have hE : destEnd s p (p + 1 + tk.length) = (⟨#[]⟩, (p : Int), false) := by unfold destEnd; rw [if_neg (by omega), hj]; rfl
          rw [hE]
        | cons e r =>
          by_cases he : e.toNat = 41
          · have hE : destEnd s p (p + 1 + tk.length) = (s.extract (p + 1) (p + 1 + tk.length), ((p + 1 + tk.length + 1 : Nat) : Int), true) := by unfold destEnd; rw [if_neg (by omega), hj, if_pos (by simp [isL, he])]
            rw [hE]
            simp only [he, if_true]
            refine ⟨trivial, L_ext (hxt.trans (L_mk _).symm), ?_⟩
            rw [List.length_cons] at hl2
            omega
          · have hE : destEnd s p (p + 1 + tk.length) = (⟨#[]⟩, (p : Int), false) := by unfold destEnd; rw [if_neg (by omega), hj, if_neg (by simp [isL, he])]
            rw [hE]
            simp only [he, if_false]
    · have h1 : ¬ isL ((L s)[p] :: (L s).drop (p + 1)) 40 = true := by unfold isL; simp [hc]
      rw [if_neg h1]
      refine ⟨_, _, _, rfl, ?_⟩
      simp [toL, hc]
  · rw [List.drop_eq_nil_of_le (by rw [← L_size]; omega)]
    exact ⟨_, _, _, rfl, rfl⟩
end Go.Proofs.YtmfffpfenhgjbaaDoor.Pure
/-! PReadS -/
set_option linter.unusedVariables false
set_option linter.unusedSimpArgs false
namespace Go.Proofs.YtmfffpfenhgjbaaDoor.Pure
open Go.RowKit Go.Lib Go.Proofs.YtmfffpfenhgjbaaDoor.X Go.Proofs.YtmfffpfenhgjbaaDoorW.PrintWords Go.Proofs.YtmfffpfenhgjbaaDoorW.PrintLast Go.Proofs.YtmfffpfenhgjbaaDoorW.PrintMore
theorem tail_suf {d : UInt8} {q t : List UInt8} (h : d :: q <:+ t) : q <:+ t := (List.suffix_cons d q).trans h
theorem escL_suf {l : List UInt8} {d : UInt8} {r : List UInt8} (h : escL l = some (d, r)) : r <:+ l := by
  unfold escL at h
  split at h
  · split at h
    · injection h with h; injection h with _ h; subst h
      exact tail_suf (List.suffix_cons _ _)
    · cases h
  · cases h
theorem codeL_suf (n : Nat) : ∀ (k : Nat) (acc l : List UInt8) (a r : List UInt8), codeL n k acc l = some (a, r) → r <:+ l ∧ a.length ≤ acc.length + l.length
  | 0, _, _, _, _, h => by rw [codeL] at h; cases h
  | k + 1, acc, [], _, _, h => by rw [codeL] at h; cases h
  | k + 1, acc, c :: t, a, r, h => by
    rw [codeL] at h
    split at h
    · cases h
    · split at h
      · injection h with h; injection h with h1 h; subst h; subst h1
        exact ⟨List.drop_suffix _ _, by omega⟩
      · have := codeL_suf n k _ _ a r h
        refine ⟨this.1.trans (List.drop_suffix _ _), ?_⟩
        have h2 := this.2
        rw [List.length_append, List.length_take, List.length_drop] at h2
        omega
theorem toL_suf {D : UInt8 → Bool} {l a r : List UInt8} (h : toL D l = some (a, r)) : r <:+ l ∧ a.length ≤ l.length := by
  unfold toL at h
  split at h
  · rename_i c t
    split at h
    · split at h
      · rename_i d q hd
        split at h
        · injection h with h; injection h with h1 h; subst h; subst h1
          have h2 : d :: q <:+ t := by rw [← hd]; exact List.dropWhile_suffix D
          refine ⟨(tail_suf h2).trans (List.suffix_cons _ _), ?_⟩
          have := (List.takeWhile_sublist D (l := t)).length_le
          rw [List.length_cons]; omega
        · cases h
      · cases h
    · cases h
  · cases h
theorem stripL_le (b : List UInt8) : (stripL b).length ≤ b.length := by
  unfold stripL
  split
  · rw [List.length_dropLast, List.length_drop]; omega
  · exact Nat.le_refl _
theorem enclL_suf {D : UInt8 → Bool} {R : Bool → Bool → List UInt8 → List Sp × List UInt8} {e k : Bool} {l : List UInt8} {x : Sp} {r : List UInt8} (hR : ∀ e k t, t.length < l.length → (R e k t).2 <:+ t) (h : enclL D R e k l = some (x, r)) : r <:+ l ∧ x.f1.size ≤ l.length := by
  unfold enclL at h
  split at h
  · cases h
  · rename_i c t
    split at h
    · have h1 := hR true k t (by simp)
      split at h
      · rename_i d q hd
        split at h
        · injection h with h; injection h with hx h; subst h; subst hx
          rw [hd] at h1
          exact ⟨(tail_suf h1).trans (List.suffix_cons _ _), Nat.zero_le _⟩
        · cases h
      · cases h
    · split at h
      · have h1 := hR e true t (by simp)
        split at h
        · rename_i d q hd
          split at h
          · cases ht : toL D q with
            | none => rw [ht] at h; cases h
            | some p =>
              rw [ht] at h
              injection h with h; injection h with hx h; subst h; subst hx
              have h2 := toL_suf (a := p.1) (r := p.2) ht
              rw [hd] at h1
              refine ⟨h2.1.trans ((tail_suf h1).trans (List.suffix_cons _ _)), ?_⟩
              have h3 := (tail_suf h1).length_le
              have : (⟨p.1.toArray⟩ : ByteArray).size = p.1.length := by rw [L_size, L_mk]
              show (⟨p.1.toArray⟩ : ByteArray).size ≤ _
              rw [this, List.length_cons]; omega
          · cases h
        · cases h
      · split at h
        · rename_i h96
          cases hc : codeL (ticksL (c :: t)) ((c :: t).length) [] ((c :: t).drop (ticksL (c :: t))) with
          | none => rw [hc] at h; cases h
          | some p =>
            rw [hc] at h
            injection h with h; injection h with hx h; subst h; subst hx
            have h2 := codeL_suf _ _ _ _ p.1 p.2 hc
            refine ⟨h2.1.trans (List.drop_suffix _ _), ?_⟩
            have h3 := stripL_le p.1
            have : (⟨(stripL p.1).toArray⟩ : ByteArray).size = (stripL p.1).length := by rw [L_size, L_mk]
            show (⟨(stripL p.1).toArray⟩ : ByteArray).size ≤ _
            rw [this]
            have h4 := h2.2
            rw [List.length_nil, List.length_drop] at h4
            omega
        · cases h
theorem rdF_suf (D : UInt8 → Bool) : ∀ (n : Nat) (e k : Bool) (acc : List Sp) (l : List UInt8), (rdF D n e k acc l).2 <:+ l
  | 0, _, _, _, _ => by rw [rdF]; exact List.suffix_refl _
  | n + 1, e, k, acc, [] => by rw [rdF]; exact List.suffix_refl _
  | n + 1, e, k, acc, c :: t => by
    rw [rdF]
    split
    · exact List.suffix_refl _
    · split
      · rename_i d r hd
        exact (rdF_suf D n e k _ r).trans (escL_suf hd)
      · split
        · rename_i x r hx
          exact (rdF_suf D n e k _ r).trans (enclL_suf (fun e k t _ => rdF_suf D n e k [] t) hx).1
        · exact (rdF_suf D n e k _ _).trans (List.drop_suffix _ _)
theorem rdL_suf (D : UInt8 → Bool) (e k : Bool) (acc : List Sp) (l : List UInt8) : (rdL D e k acc l).2 <:+ l := rdF_suf _ _ _ _ _ _
/-- An end of an end is found by its length. -/
theorem suf_drop {l m : List UInt8} (h : m <:+ l) : l.drop (l.length - m.length) = m := (List.suffix_iff_eq_drop.1 h).symm
end Go.Proofs.YtmfffpfenhgjbaaDoor.Pure
