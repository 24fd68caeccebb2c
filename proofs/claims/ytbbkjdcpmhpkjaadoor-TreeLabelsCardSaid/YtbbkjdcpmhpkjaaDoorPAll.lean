/- Words for the laws of this seat, several texts behind one another. -/
import Derived.Test.YtbbkjdcpmhpkjaaDoorBase
import Derived.Test.YtbbkjdcpmhpkjaaDoorX0
import Derived.Test.YtbbkjdcpmhpkjaaDoorGivenDest
import Derived.Test.YtbbkjdcpmhpkjaaDoorX1
import Derived.Lib.IndexLaws
import Derived.Lib.IndexAny
import Derived.Test.YtbbkjdcpmhpkjaaDoorX2
import Derived.Test.YtbbkjdcpmhpkjaaDoorGivenStrs
import Derived.Test.YtbbkjdcpmhpkjaaDoorGivenRight
import Derived.Test.YtbbkjdcpmhpkjaaDoorX3
import Derived.Test.YtbbkjdcpmhpkjaaDoorGivenPlain
/-! PBits -/
set_option linter.unusedSimpArgs false
set_option linter.unusedVariables false
namespace Go.Proofs.YtbbkjdcpmhpkjaaDoor.Pure
open Go.RowKit Go.Lib Go.Proofs.YtbbkjdcpmhpkjaaDoor.X Go.Proofs.YtbbkjdcpmhpkjaaDoorW.PrintWords Go.Proofs.YtbbkjdcpmhpkjaaDoorW.PrintLast Go.Proofs.YtbbkjdcpmhpkjaaDoorW.PrintMore
theorem i10 (b : UInt8) : ((b.toNat : Int) = 10) ↔ b.toNat = 10 := by omega
theorem beqF {a b : Nat} (h : a ≠ b) : (a == b) = false := beq_eq_false_iff_ne.2 h
theorem bt_d (s : ByteArray) (i : Nat) (c : UInt8) (t : List UInt8) (h : (L s).drop i = c :: t) : bt s (i : Int) = (c.toNat : Int) := (bt_drop s i h).1
theorem drop_lt {α : Type} {l : List α} {i : Nat} {c : α} {t : List α} (h : l.drop i = c :: t) : i < l.length := by
  rcases Nat.lt_or_ge i l.length with h1 | h1
  · exact h1
  · rw [List.drop_eq_nil_of_le h1] at h; cases h
theorem drop_tail {α : Type} {l : List α} {i : Nat} {c : α} {t : List α} (h : l.drop i = c :: t) : l.drop (i + 1) = t := by
  rw [← List.drop_drop, h]; rfl
theorem drop_nil_len {α : Type} {l : List α} {i : Nat} (h : l.drop i = []) : l.length ≤ i := List.drop_eq_nil_iff.1 h
theorem drop_len {α : Type} {l : List α} {i : Nat} {t : List α} (h : l.drop i = t) : t.length = l.length - i := by rw [← h, List.length_drop]
end Go.Proofs.YtbbkjdcpmhpkjaaDoor.Pure
/-! PDest -/
set_option linter.unusedSimpArgs false
set_option linter.unusedVariables false
namespace Go.Proofs.YtbbkjdcpmhpkjaaDoor.Pure
open Go.RowKit Go.Lib Go.Proofs.YtbbkjdcpmhpkjaaDoor.X Go.Proofs.YtbbkjdcpmhpkjaaDoor.G Go.Proofs.YtbbkjdcpmhpkjaaDoorW.PrintWords Go.Proofs.YtbbkjdcpmhpkjaaDoorW.PrintLast Go.Proofs.YtbbkjdcpmhpkjaaDoorW.PrintMore
theorem span_dest_eq (s : ByteArray) : span_Dest.f s = some (destL (L s)) := rfl
end Go.Proofs.YtbbkjdcpmhpkjaaDoor.Pure
/-! PCheck -/
set_option linter.unusedSimpArgs false
set_option linter.unusedVariables false
namespace Go.Proofs.YtbbkjdcpmhpkjaaDoor.Pure
open Go.RowKit Go.Lib Go.Proofs.YtbbkjdcpmhpkjaaDoor.X Go.Proofs.YtbbkjdcpmhpkjaaDoor.G Go.Proofs.YtbbkjdcpmhpkjaaDoorW.PrintWords Go.Proofs.YtbbkjdcpmhpkjaaDoorW.PrintLast Go.Proofs.YtbbkjdcpmhpkjaaDoorW.PrintMore
/-- What keeps bytes from being a text, as a number. -/
def checkV (l : List UInt8) : Int := if l.length > 1048576 then 4 else if l.contains 0 = true then 3 else if validD l = true then 0 else 2
theorem nums_bytes (s : ByteArray) : Lib.bytesOf (Go.Proofs.YtbbkjdcpmhpkjaaDoorW.PrintWords.bytesOf s) = L s := by
  unfold Lib.bytesOf Go.Proofs.YtbbkjdcpmhpkjaaDoorW.PrintWords.bytesOf L
  rw [List.map_map]
  have : ∀ l : List UInt8, l.map ((fun n : Int => UInt8.ofNat n.toNat) ∘ fun b : UInt8 => (b.toNat : Int)) = l := by
    intro l
    induction l with
    | nil => rfl
    | cons b t ih => rw [List.map_cons, ih]; simp
  exact this _
theorem isByte_bytes (s : ByteArray) : (Go.Proofs.YtbbkjdcpmhpkjaaDoorW.PrintWords.bytesOf s).all isByte = true := by
  rw [List.all_eq_true]
  intro x hx
  unfold Go.Proofs.YtbbkjdcpmhpkjaaDoorW.PrintWords.bytesOf at hx
  obtain ⟨b, _, rfl⟩ := List.mem_map.1 hx
  have := b.toNat_lt
  simp [isByte]
  omega
theorem contains_zero (l : List UInt8) : l.contains 0 = decide (0 ≤ indexByte l 0) := contains_iff_indexByte l 0
theorem utf_Check_nums (l : List Int) (hb : l.all isByte = true) (hl : l.length ≤ 140737488351232) : utf_Check.f l = some (checkV (Lib.bytesOf l)) := by
  unfold utf_Check.f checkV
  have hlen : (Lib.bytesOf l).length = l.length := by simp [Lib.bytesOf]
  rw [hlen]
  by_cases h : l.length > 1048576
  · rw [if_pos (by omega), if_pos h]
  rw [if_neg (by omega), if_neg h]
  have hv : utf8_Valid.f l = some (validD (Lib.bytesOf l)) := by
    unfold utf8_Valid.f
    rw [if_pos ⟨by omega, hb⟩]
  by_cases h0 : l.length = 0
  · obtain rfl := List.eq_nil_of_length_eq_zero h0
    rw [hv]
    rfl
  have hi : bytes_IndexByte.f l 0 = some (indexByte (Lib.bytesOf l) 0) := by
    unfold bytes_IndexByte.f
    rw [if_neg h0]
    rfl
  rw [hi, Option.bind_some, contains_zero, hv]
  by_cases g : 0 ≤ indexByte (Lib.bytesOf l) 0
  · rw [if_pos g, if_pos (decide_eq_true g)]
  · rw [if_neg g, if_neg (by simpa using g), Option.bind_some]
    by_cases y : validD (Lib.bytesOf l) = true
    · rw [if_pos y, if_pos y]
    · rw [if_neg y, if_neg y]
theorem utf_Check_eq (s : ByteArray) (hs : s.size ≤ 140737488351232) : utf_Check.f (Go.Proofs.YtbbkjdcpmhpkjaaDoorW.PrintWords.bytesOf s) = some (checkV (L s)) := by
  rw [utf_Check_nums _ (isByte_bytes s) (by rw [Go.Proofs.YtbbkjdcpmhpkjaaDoorW.PrintWords.bytesOf_length]; exact hs), nums_bytes]
end Go.Proofs.YtbbkjdcpmhpkjaaDoor.Pure
/-! PTrim -/
namespace Go.Proofs.YtbbkjdcpmhpkjaaDoor.Pure
open Go.RowKit Go.Proofs.YtbbkjdcpmhpkjaaDoor.X Go.Proofs.YtbbkjdcpmhpkjaaDoor.G Go.Proofs.YtbbkjdcpmhpkjaaDoorW.PrintWords Go.Proofs.YtbbkjdcpmhpkjaaDoorW.PrintLast Go.Proofs.YtbbkjdcpmhpkjaaDoorW.PrintMore
/-! ### Trim -/
def gapB (b : UInt8) : Bool := ([32, 9] : List UInt8).contains b
theorem gapB_iff (b : UInt8) : gapB b = true ↔ (b.toNat : Int) = 32 ∨ (b.toNat : Int) = 9 := by
  unfold gapB
  simp only [List.contains_cons, List.contains_nil, Bool.or_false, Bool.or_eq_true, beq_iff_eq]
  constructor
  · rintro (h | h)
    · subst h; exact .inl rfl
    · subst h; exact .inr rfl
  · rintro (h | h)
    · exact .inl (toNat_inj (by have : b.toNat = 32 := by omega
                                rw [this]; rfl))
    · exact .inr (toNat_inj (by have : b.toNat = 9 := by omega
                                rw [this]; rfl))
def rdrop (p : UInt8 → Bool) (l : List UInt8) : List UInt8 := (l.reverse.dropWhile p).reverse
theorem rdrop_nil (p : UInt8 → Bool) : rdrop p [] = [] := rfl
theorem rdrop_cons (p : UInt8 → Bool) (b : UInt8) (t : List UInt8) : rdrop p (b :: t) = if rdrop p t = [] then (if p b = true then [] else [b]) else b :: rdrop p t := by
  unfold rdrop
  rw [List.reverse_cons, List.dropWhile_append]
  by_cases h : (t.reverse.dropWhile p).isEmpty = true
  · have h' : t.reverse.dropWhile p = [] := by simpa using h
    rw [if_pos h, h']
    simp only [List.reverse_nil, if_true]
    by_cases hb : p b = true
    · simp [hb]
    · simp [hb]
  · rw [if_neg h]
    have h' : ¬ (t.reverse.dropWhile p).reverse = [] := by simpa using h
    rw [if_neg h']
    simp
theorem rdrop_snoc (p : UInt8 → Bool) (t : List UInt8) (b : UInt8) : rdrop p (t ++ [b]) = if p b = true then rdrop p t else t ++ [b] := by
  unfold rdrop
  rw [List.reverse_append, List.reverse_singleton, List.singleton_append, List.dropWhile_cons]
  split <;> simp
theorem drop_rdrop (p : UInt8 → Bool) : ∀ l : List UInt8, (rdrop p l).dropWhile p = rdrop p (l.dropWhile p)
  | [] => rfl
  | b :: t => by
    have ih := drop_rdrop p t
    by_cases hb : p b = true
    · rw [rdrop_cons, List.dropWhile_cons (x := b) (xs := t), if_pos hb, if_pos hb, ← ih]
      by_cases h : rdrop p t = []
      · rw [if_pos h, h]
      · rw [if_neg h, List.dropWhile_cons, if_pos hb]
    · rw [List.dropWhile_cons (x := b) (xs := t), if_neg hb, rdrop_cons, if_neg hb]
      by_cases h : rdrop p t = []
      · rw [if_pos h, List.dropWhile_cons, if_neg hb]
      · rw [if_neg h, List.dropWhile_cons, if_neg hb]
/-- What is left of a line. -/
def trim (l : List UInt8) : List UInt8 := rdrop gapB (l.dropWhile gapB)
theorem trim_lib (l : List UInt8) : Lib.trimS l [32, 9] = trim l := drop_rdrop gapB l
theorem lines_Trim_eq (s : ByteArray) (hs : s.size ≤ 140737488351232) : lines_Trim.f s = some ⟨(trim (L s)).toArray⟩ := by
  unfold lines_Trim.f strings_Trim.f
  rw [if_pos ⟨by omega, by decide, by decide⟩]
  simp only [Option.bind_some]
  rw [← trim_lib]
  rfl
end Go.Proofs.YtbbkjdcpmhpkjaaDoor.Pure
/-! PSpanTP -/
set_option linter.unusedSimpArgs false
set_option linter.unusedVariables false
namespace Go.Proofs.YtbbkjdcpmhpkjaaDoor.Pure
open Go.RowKit Go.Lib Go.Proofs.YtbbkjdcpmhpkjaaDoor.X Go.Proofs.YtbbkjdcpmhpkjaaDoor.G Go.Proofs.YtbbkjdcpmhpkjaaDoorW.PrintWords Go.Proofs.YtbbkjdcpmhpkjaaDoorW.PrintLast Go.Proofs.YtbbkjdcpmhpkjaaDoorW.PrintMore
/-- The class of a character, as a number. -/
def classV (c : Int) : Int := if c = 10 ∨ c = 13 then 3 else if c = 9 ∨ c = 32 then 2 else if (33 ≤ c ∧ c ≤ 47) ∨ (58 ≤ c ∧ c ≤ 64) ∨ (91 ≤ c ∧ c ≤ 96) ∨ (123 ≤ c ∧ c ≤ 126) then 4 else 1
theorem Class_eq (c : Int) (k : Nat) : utf_Class.f (k + 9) c = some (classV c) := by
  unfold utf_Class.f classV
  simp only [utf_Class.j0, utf_Class.j1, utf_Class.j2, utf_Class.j3, utf_Class.j4, beq_iff_eq, decide_eq_true_eq, Bool.false_eq_true, if_true, if_false]
  have hr : c < 9 ∨ c = 9 ∨ c = 10 ∨ (10 < c ∧ c < 13) ∨ c = 13 ∨ (13 < c ∧ c < 32) ∨ c = 32 ∨ (33 ≤ c ∧ c ≤ 47) ∨ (48 ≤ c ∧ c ≤ 57) ∨ (58 ≤ c ∧ c ≤ 64) ∨ (65 ≤ c ∧ c ≤ 90) ∨ (91 ≤ c ∧ c ≤ 96) ∨ (97 ≤ c ∧ c ≤ 122) ∨ (123 ≤ c ∧ c ≤ 126) ∨ 127 ≤ c := by omega
  rcases hr with h | h | h | h | h | h | h | h | h | h | h | h | h | h | h
  all_goals (repeat (first | rw [if_pos (by omega)] | rw [if_neg (by omega)]))
theorem class_space (b : UInt8) : classV (b.toNat : Int) = 2 ↔ (b.toNat = 9 ∨ b.toNat = 32) := by
  have h : ∀ n : Fin 256, classV ((n.val : Nat) : Int) = 2 ↔ (n.val = 9 ∨ n.val = 32) := by decide +kernel
  exact h ⟨b.toNat, b.toNat_lt⟩
theorem class_more (b : UInt8) : (classV (b.toNat : Int) = 1 ∨ classV (b.toNat : Int) = 4) ↔ ¬ (b.toNat = 9 ∨ b.toNat = 32 ∨ b.toNat = 10 ∨ b.toNat = 13) := by
  have h : ∀ n : Fin 256, (classV ((n.val : Nat) : Int) = 1 ∨ classV ((n.val : Nat) : Int) = 4) ↔ ¬ (n.val = 9 ∨ n.val = 32 ∨ n.val = 10 ∨ n.val = 13) := by decide +kernel
  exact h ⟨b.toNat, b.toNat_lt⟩
/-- Two bytes that can stand beside each other in a Text. -/
def pairOk (c n : UInt8) : Bool := !(c.toNat == 10 && (n.toNat == 9 || n.toNat == 32 || n.toNat == 10 || n.toNat == 13)) && !(n.toNat == 10 && (c.toNat == 9 || c.toNat == 32))
def pairs : List UInt8 → Bool
  | c :: n :: t => pairOk c n && pairs (n :: t)
  | _ => true
/-- Whether a text can read so. -/
def textV (l : List UInt8) : Bool := !l.isEmpty && !l.contains 13 && pairs l
theorem rd_bytes (l : List UInt8) (s : ByteArray) (e : L s = l) (i : Nat) (c : UInt8) (h : l[i]? = some c) : rd (Go.Proofs.YtbbkjdcpmhpkjaaDoorW.PrintWords.bytesOf s) (i : Int) = (c.toNat : Int) := by
  subst e
  unfold rd Go.Proofs.YtbbkjdcpmhpkjaaDoorW.PrintWords.bytesOf
  unfold L at h
  rw [Int.toNat_natCast, List.getD_eq_getElem?_getD, List.getElem?_map, h]
  rfl
section
variable (s : ByteArray) (hs : s.size ≤ 140737488351232)
include hs
theorem text_l0 (u : ByteArray) (hu : L u = (L s).take ((L s).length - 1)) : ∀ (d i k : Nat), i + d = (L s).length - 1 → d * 2 + 20 < k → 0 < (L s).length →
    span_text.l0 k s (Go.Proofs.YtbbkjdcpmhpkjaaDoorW.PrintWords.bytesOf u) (((L s).length - 1 : Nat) : Int) (i : Int) = some (pairs ((L s).drop i)) := by
  have hsl : s.size = (L s).length := L_size s
  have hbl : (Go.Proofs.YtbbkjdcpmhpkjaaDoorW.PrintWords.bytesOf u).length = (L s).length - 1 := by
    rw [Go.Proofs.YtbbkjdcpmhpkjaaDoorW.PrintWords.bytesOf_length, L_size, hu, List.length_take]; omega
  intro d
  induction d with
  | zero =>
    intro i k hi hk h0
    obtain ⟨k, rfl⟩ : ∃ m, k = m + 1 := ⟨k - 1, by omega⟩
    simp only [span_text.l0]
    rw [if_neg (by omega)]
    cases hd : (L s).drop i with
    | nil => rfl
    | cons c t =>
      have := drop_len hd
      cases t with
      | nil => rfl
      | cons n t => simp at this; omega
  | succ d ih =>
    intro i k hi hk h0
    obtain ⟨k, rfl⟩ : ∃ m, k = m + 2 := ⟨k - 2, by omega⟩
    have hil : i + 1 < (L s).length := by omega
    have q1 : (i : Int) < (((L s).length - 1 : Nat) : Int) := by omega
    have q2 : (0 : Int) ≤ (i : Int) := by omega
    have q3 : (i : Int) < ((Go.Proofs.YtbbkjdcpmhpkjaaDoorW.PrintWords.bytesOf u).length : Int) := by rw [hbl]; exact q1
    have q4 : (0 : Int) ≤ ((i + 1 : Nat) : Int) := by omega
    have q5 : ((i + 1 : Nat) : Int) < (s.size : Int) := by omega
    obtain ⟨c, n, t, hd⟩ : ∃ c n t, (L s).drop i = c :: n :: t := by
      rw [List.drop_eq_getElem_cons (by omega), List.drop_eq_getElem_cons hil]
      exact ⟨_, _, _, rfl⟩
    have hd1 := drop_tail hd
    have hc : rd (Go.Proofs.YtbbkjdcpmhpkjaaDoorW.PrintWords.bytesOf u) (i : Int) = (c.toNat : Int) := by
      refine rd_bytes _ u hu i c ?_
      rw [List.getElem?_take_of_lt (by omega)]
      have := congrArg (fun l => l[0]?) hd
      simpa using this
    have hn : bt s ((i + 1 : Nat) : Int) = (n.toNat : Int) := bt_d s (i + 1) n t hd1
    have hw1 : wrap64 ((i : Int) + 1) = ((i + 1 : Nat) : Int) := by rw [wrap_small (by omega) (by omega)]; omega
    have hwn : wrap64 (n.toNat : Int) = (n.toNat : Int) := by have := n.toNat_lt; exact wrap_small (by omega) (by omega)
    have hwc : wrap64 (c.toNat : Int) = (c.toNat : Int) := by have := c.toNat_lt; exact wrap_small (by omega) (by omega)
    have hnx : span_text.l0 k s (Go.Proofs.YtbbkjdcpmhpkjaaDoorW.PrintWords.bytesOf u) (((L s).length - 1 : Nat) : Int) ((i + 1 : Nat) : Int) = some (pairs ((L s).drop (i + 1))) := ih (i + 1) k (by omega) (by omega) h0
    have hj : ∀ b : Bool, span_text.j2 (k + 1) s (c.toNat : Int) (n.toNat : Int) (Go.Proofs.YtbbkjdcpmhpkjaaDoorW.PrintWords.bytesOf u) (((L s).length - 1 : Nat) : Int) (i : Int) b = some (!b && !(n.toNat == 10 && (c.toNat == 9 || c.toNat == 32)) && pairs (n :: t)) := by
      intro b
      obtain ⟨m, rfl⟩ : ∃ m, k = m + 9 := ⟨k - 9, by omega⟩
      simp only [span_text.j2]
      cases b with
      | true => rfl
      | false =>
        rw [if_neg (by decide), hwc, Class_eq, Option.bind_some, hw1, hnx, hd1]
        have h2 := class_space c
        by_cases g : n.toNat = 10
        · rw [if_pos ((i10 n).2 g)]
          by_cases g2 : c.toNat = 9 ∨ c.toNat = 32
          · rw [if_pos (h2.2 g2)]; rcases g2 with g2 | g2 <;> simp [g, g2]
          · rw [if_neg (fun e => g2 (h2.1 e))]
            have a1 : c.toNat ≠ 9 := fun e => g2 (.inl e)
            have a2 : c.toNat ≠ 32 := fun e => g2 (.inr e)
            simp [g, beqF a1, beqF a2]
        · rw [if_neg (fun e => g ((i10 n).1 e))]; simp [beqF g]
    rw [span_text.l0]
    rw [if_pos q1, if_pos q2, if_pos q3, hw1, if_pos q4, if_pos q5, hc, hn, hwn, hd]
    obtain ⟨m, rfl⟩ : ∃ m, k = m + 9 := ⟨k - 9, by omega⟩
    have hcl := class_more n
    by_cases g : c.toNat = 10
    · rw [if_pos ((i10 c).2 g), Class_eq, Option.bind_some]
      simp only [pairs, pairOk]
      by_cases g1 : classV (n.toNat : Int) = 1
      · rw [if_pos g1, hj]
        have := hcl.1 (.inl g1)
        have b1 : n.toNat ≠ 9 := fun e => this (by simp [e])
        have b2 : n.toNat ≠ 32 := fun e => this (by simp [e])
        have b3 : n.toNat ≠ 10 := fun e => this (by simp [e])
        have b4 : n.toNat ≠ 13 := fun e => this (by simp [e])
        simp [beqF b1, beqF b2, beqF b3, beqF b4]
      · rw [if_neg g1, Option.bind_some, hj]
        by_cases g4 : classV (n.toNat : Int) = 4
        · have := hcl.1 (.inr g4)
          have b1 : n.toNat ≠ 9 := fun e => this (by simp [e])
          have b2 : n.toNat ≠ 32 := fun e => this (by simp [e])
          have b3 : n.toNat ≠ 10 := fun e => this (by simp [e])
          have b4 : n.toNat ≠ 13 := fun e => this (by simp [e])
          simp [beqF b1, beqF b2, beqF b3, beqF b4, g4]
        · have h1 : n.toNat = 9 ∨ n.toNat = 32 ∨ n.toNat = 10 ∨ n.toNat = 13 := Classical.byContradiction fun e => by
            rcases hcl.2 e with q | q
            · exact g1 q
            · exact g4 q
          have g5 : (classV (n.toNat : Int) != 4) = true := bne_iff_ne.2 g4
          rw [g5]
          rcases h1 with h1 | h1 | h1 | h1 <;> simp [g, h1]
    · rw [if_neg (fun e => g ((i10 c).1 e)), hj]
      simp [pairs, pairOk, beqF g]
theorem span_text_eq (k : Nat) (hk : 2 * s.size + 30 < k) : span_text.f k s = some (textV (L s)) := by
  have hsl : s.size = (L s).length := L_size s
  obtain ⟨k, rfl⟩ : ∃ m, k = m + 1 := ⟨k - 1, by omega⟩
  unfold span_text.f textV
  rw [L_toList]
  by_cases h : L s = []
  · rw [if_pos h, h]; rfl
  rw [if_neg h]
  have h0 : 0 < (L s).length := List.length_pos_iff.2 h
  unfold strings_ContainsRune.f
  rw [if_pos (by omega), Option.bind_some]
  have hc : decide (0 ≤ Lib.indexByte s.data.toList (13 : Int).toNat.toUInt8) = (L s).contains 13 := (contains_iff_indexByte (L s) 13).symm
  rw [hc]
  have he : (L s).isEmpty = false := by cases hL : L s with | nil => exact absurd hL h | cons => rfl
  simp only [span_text.j0]
  rw [he]
  cases hb : (L s).contains 13 with
  | true => rfl
  | false =>
    have hw : wrap64 ((s.size : Int) - 1) = (((L s).length - 1 : Nat) : Int) := by rw [wrap_small (by omega) (by omega)]; omega
    have hu : L (s.extract 0 ((L s).length - 1)) = (L s).take ((L s).length - 1) := L_upto s _
    rw [if_neg (by decide), hw, if_pos (by omega), if_pos (by omega), Int.toNat_natCast, if_pos (by rw [L_size, hu, List.length_take]; omega), Option.bind_some, Go.Proofs.YtbbkjdcpmhpkjaaDoorW.PrintWords.bytesOf_length]
    have h2 : ((s.extract 0 ((L s).length - 1)).size : Int) = (((L s).length - 1 : Nat) : Int) := by rw [L_size, hu, List.length_take]; omega
    rw [h2]
    have := text_l0 s hs (s.extract 0 ((L s).length - 1)) hu ((L s).length - 1) 0 k (by omega) (by omega) h0
    rw [List.drop_zero] at this
    exact this
end
theorem edge_eq (b : UInt8) : span_edge.f (b.toNat : Int) = some (b.toNat == 9 || b.toNat == 32 || b.toNat == 10) := by
  unfold span_edge.f
  by_cases h : b.toNat = 32
  · rw [if_pos (by omega)]; simp [h]
  · rw [if_neg (by omega)]
    by_cases g : b.toNat = 9
    · rw [if_pos (by omega)]; simp [g]
    · rw [if_neg (by omega)]
      by_cases f : b.toNat = 10
      · simp [f]
      · have : ((b.toNat : Int) == 10) = false := beq_eq_false_iff_ne.2 (by omega)
        simp [this, beqF h, beqF g, beqF f]
end Go.Proofs.YtbbkjdcpmhpkjaaDoor.Pure
/-! PSpan -/
set_option linter.unusedSimpArgs false
set_option linter.unusedVariables false
namespace Go.Proofs.YtbbkjdcpmhpkjaaDoor.Pure
open Go.RowKit Go.Lib Go.Proofs.YtbbkjdcpmhpkjaaDoor.X Go.Proofs.YtbbkjdcpmhpkjaaDoor.G Go.Proofs.YtbbkjdcpmhpkjaaDoorW.PrintWords Go.Proofs.YtbbkjdcpmhpkjaaDoorW.PrintLast Go.Proofs.YtbbkjdcpmhpkjaaDoorW.PrintMore

mutual
/-- How many spans and bytes there are, however deep. -/
def wtV : S33 → Nat
  | ⟨_, s, c⟩ => 1 + s.size + wtL c
def wtL : List S33 → Nat
  | [] => 0
  | x :: t => wtV x + wtL t
end
theorem wtV_eq (x : S33) : wtV x = 1 + x.f1.size + wtL x.f2 := by cases x; rw [wtV]
theorem wtL_cons (x : S33) (t : List S33) : wtL (x :: t) = 1 + x.f1.size + wtL x.f2 + wtL t := by rw [wtL, wtV_eq]
theorem wtL_append (a b : List S33) : wtL (a ++ b) = wtL a + wtL b := by
  induction a with
  | nil => simp [wtL]
  | cons x t ih => rw [List.cons_append, wtL_cons, wtL_cons, ih]; omega
theorem wtL_length (l : List S33) : l.length ≤ wtL l := by
  induction l with
  | nil => simp [wtL]
  | cons x t ih => rw [wtL_cons, List.length_cons]; omega
mutual
/-- Texts and lists of sizes that can be. -/
def okV : S33 → Prop
  | ⟨_, s, c⟩ => s.size ≤ 140737488351232 ∧ c.length ≤ 140737488351232 ∧ okL c
def okL : List S33 → Prop
  | [] => True
  | x :: t => okV x ∧ okL t
end
theorem okL_cons (x : S33) (t : List S33) : okL (x :: t) ↔ (x.f1.size ≤ 140737488351232 ∧ x.f2.length ≤ 140737488351232 ∧ okL x.f2) ∧ okL t := by cases x; rw [okL, okV]
theorem rd_drop (l : List S33) (i : Nat) {x : S33} {t : List S33} (h : l.drop i = x :: t) : rd_T33 l (i : Int) = x ∧ i < l.length ∧ l.drop (i + 1) = t := by
  refine ⟨?_, drop_lt h, drop_tail h⟩
  unfold rd_T33
  rw [Int.toNat_natCast, List.getD_eq_getElem?_getD]
  have := congrArg (fun l => l[0]?) h
  simp at this
  rw [this]
  rfl
theorem size_kids (x : S33) (t : List S33) : SizeOf.sizeOf x.f2 < SizeOf.sizeOf (x :: t) := by
  cases x
  simp only [List.cons.sizeOf_spec, S33.mk.sizeOf_spec]
  omega
theorem size_tail (x : S33) (t : List S33) : SizeOf.sizeOf t < SizeOf.sizeOf (x :: t) := by
  simp only [List.cons.sizeOf_spec]
  omega

mutual
/-- What the reference counts, with a greatest depth and an amount that it may spend. -/
def spendV : S33 → Int → Int → Int → Int
  | ⟨_, s, c⟩, d, b, u => (u + 1 + s.size) + spendL c (d - 1) (b - (u + 1 + s.size)) 0
def spendL : List S33 → Int → Int → Int → Int
  | [], _, _, u => u
  | x :: t, d, b, u => if d = 0 then u + 1000000 else if u ≥ b then u + 1000000 else spendL t d b (spendV x d b u)
end
theorem spendV_eq (x : S33) (d b u : Int) : spendV x d b u = (u + 1 + x.f1.size) + spendL x.f2 (d - 1) (b - (u + 1 + x.f1.size)) 0 := by cases x; rw [spendV]
theorem spend_over (l : List S33) (d b u : Int) (h : u ≥ b) : u ≤ spendL l d b u ∧ spendL l d b u ≤ u + 1000000 := by
  cases l with
  | nil => rw [spendL]; omega
  | cons x t => rw [spendL]; (repeat' split) <;> omega
theorem spend_bound (n : Nat) : ∀ (l : List S33) (d b u : Int), SizeOf.sizeOf l < n → okL l → 0 ≤ d → 0 ≤ u → u ≤ spendL l d b u ∧ spendL l d b u ≤ max u b + (d + 1) * 140737489351233 := by
  induction n with
  | zero => intro l d b u h; omega
  | succ n ih =>
    intro l d b u hn ho hd hu
    have hd1 : (0 : Int) ≤ (d + 1) * 140737489351233 := Int.mul_nonneg (by omega) (by omega)
    cases l with
    | nil => rw [spendL]; omega
    | cons x t =>
      have h1 := size_kids x t
      have h2 := size_tail x t
      obtain ⟨⟨hs, _, hk⟩, ht⟩ := (okL_cons x t).1 ho
      rw [spendL]
      by_cases e : d = 0
      · rw [if_pos e]; subst e; omega
      rw [if_neg e]
      by_cases g : u ≥ b
      · rw [if_pos g]
        have : (140737489351233 : Int) ≤ (d + 1) * 140737489351233 := by omega
        omega
      rw [if_neg g, spendV_eq]
      have k1 := ih x.f2 (d - 1) (b - (u + 1 + x.f1.size)) 0 (by omega) hk (by omega) (by omega)
      generalize spendL x.f2 (d - 1) (b - (u + 1 + x.f1.size)) 0 = v at k1 ⊢
      by_cases g2 : u + 1 + x.f1.size + v ≥ b
      · have k2 := spend_over t d b _ g2
        omega
      · have k2 := ih t d b (u + 1 + x.f1.size + v) (by omega) ht hd (by omega)
        omega
theorem spend_wt (n : Nat) : ∀ (l : List S33) (d b u : Int), SizeOf.sizeOf l < n → okL l → 0 ≤ d → 0 ≤ u → spendL l d b u < 1000000 → spendL l d b u = u + wtL l := by
  induction n with
  | zero => intro l d b u h; omega
  | succ n ih =>
    intro l d b u hn ho hd hu h
    cases l with
    | nil => rw [spendL, wtL]; omega
    | cons x t =>
      have h1 := size_kids x t
      have h2 := size_tail x t
      obtain ⟨⟨hs, _, hk⟩, ht⟩ := (okL_cons x t).1 ho
      rw [spendL] at h ⊢
      by_cases e : d = 0
      · rw [if_pos e] at h; omega
      rw [if_neg e] at h ⊢
      by_cases g : u ≥ b
      · rw [if_pos g] at h; omega
      rw [if_neg g, spendV_eq] at h ⊢
      have k1 := spend_bound n x.f2 (d - 1) (b - (u + 1 + x.f1.size)) 0 (by omega) hk (by omega) (by omega)
      have k0 := spend_bound n t d b (u + 1 + x.f1.size + spendL x.f2 (d - 1) (b - (u + 1 + x.f1.size)) 0) (by omega) ht hd (by omega)
      have k2 := ih x.f2 (d - 1) (b - (u + 1 + x.f1.size)) 0 (by omega) hk (by omega) (by omega) (by omega)
      have k3 := ih t d b _ (by omega) ht hd (by omega) h
      rw [k3, k2, wtL_cons]
      omega
theorem spend_arith (u d b z v : Int) (hu : 0 ≤ u) (hub : u < b) (hb : b ≤ 100000) (hz : 0 ≤ z) (hz2 : z ≤ 140737488351232) (hd : d ≤ 30) (h0 : 0 ≤ v) (h1 : v ≤ max 0 (b - (u + 1 + z)) + (d - 1 + 1) * 140737489351233) : 0 ≤ u + 1 + z + v ∧ u + 1 + z + v ≤ 5000000000000000 := by
  have kd : (d - 1 + 1) * 140737489351233 ≤ 30 * 140737489351233 := Int.mul_le_mul_of_nonneg_right (by omega) (by omega)
  generalize (d - 1 + 1) * 140737489351233 = y at *
  omega
theorem spend_eq (n : Nat) : ∀ (l : List S33) (d b : Int) (k : Nat), SizeOf.sizeOf l < n → okL l → l.length ≤ 140737488351232 → 0 ≤ d → d ≤ 30 → -281474976702464 ≤ b → b ≤ 100000 → 2 * wtL l + 1 < k → emendationref07_spend.f k l d b = some (spendL l d b 0) := by
  induction n with
  | zero => intro l d b k h; omega
  | succ n ih =>
    intro l d b k hn ho hl hd hd2 hb hb2 hk
    obtain ⟨k, rfl⟩ : ∃ m, k = m + 1 := ⟨k - 1, by omega⟩
    rw [emendationref07_spend.f]
    have loop : ∀ (t : List S33) (i : Nat) (u : Int) (k : Nat), l.drop i = t → i ≤ l.length → 0 ≤ u → u ≤ 5000000000000000 → 2 * wtL t < k → SizeOf.sizeOf t ≤ SizeOf.sizeOf l → okL t →
        emendationref07_spend.l0 k l d b u (l.length : Int) (i : Int) = some (spendL t d b u) := by
      intro t
      induction t with
      | nil =>
        intro i u k hdr hil hu hu2 hk _ _
        obtain ⟨k, rfl⟩ : ∃ m, k = m + 1 := ⟨k - 1, by omega⟩
        have := drop_nil_len hdr
        rw [emendationref07_spend.l0, if_neg (by omega), spendL]
      | cons x t iht =>
        intro i u k hdr hil hu hu2 hk hsz hot
        obtain ⟨k, rfl⟩ : ∃ m, k = m + 1 := ⟨k - 1, by omega⟩
        obtain ⟨e1, e2, e3⟩ := rd_drop l i hdr
        obtain ⟨⟨hs, hkl, hko⟩, hto⟩ := (okL_cons x t).1 hot
        have h1 := size_kids x t
        have h2 := size_tail x t
        rw [wtL_cons] at hk
        have q1 : (i : Int) < (l.length : Int) := by omega
        rw [emendationref07_spend.l0, if_pos q1, spendL]
        have w0 : wrap64 (u + 1000000) = u + 1000000 := wrap_small (by omega) (by omega)
        by_cases e : d = 0
        · rw [if_pos e, if_pos e, w0]
        rw [if_neg e, if_neg e]
        by_cases g : u ≥ b
        · rw [if_pos g, if_pos g, w0]
        have p4 : 2 * wtL t < k := by omega
        have p5 : SizeOf.sizeOf t ≤ SizeOf.sizeOf l := by omega
        have p6 : SizeOf.sizeOf x.f2 < n := by omega
        have p7 : 2 * wtL x.f2 + 1 < k := by omega
        have p8 : 0 ≤ d - 1 := by omega
        have p9 : (x.f1.size : Int) ≤ 140737488351232 := by omega
        have p10 : d - 1 ≤ 30 := by omega
        have p11 : -281474976702464 ≤ b - (u + 1 + (x.f1.size : Int)) := by omega
        have p12 : b - (u + 1 + (x.f1.size : Int)) ≤ 100000 := by omega
        have w1 : wrap64 (u + 1) = u + 1 := wrap_small (by omega) (by omega)
        have w2 : wrap64 (u + 1 + (x.f1.size : Int)) = u + 1 + x.f1.size := wrap_small (by omega) (by omega)
        have w3 : wrap64 (b - (u + 1 + (x.f1.size : Int))) = b - (u + 1 + x.f1.size) := wrap_small (by omega) (by omega)
        have w4 : wrap64 (d - 1) = d - 1 := wrap_small (by omega) (by omega)
        have w5 : wrap64 ((i : Int) + 1) = ((i + 1 : Nat) : Int) := by rw [wrap_small (by omega) (by omega)]; omega
        rw [if_neg g, if_neg g, if_pos (Int.natCast_nonneg i), if_pos q1, e1, w1, w2, w3, w4, w5]
        have kb := spend_bound n x.f2 (d - 1) (b - (u + 1 + x.f1.size)) 0 p6 hko p8 (by omega)
        have ka := spend_arith u d b x.f1.size _ hu (by omega) hb2 (Int.natCast_nonneg _) p9 hd2 kb.1 kb.2
        rw [ih x.f2 (d - 1) (b - (u + 1 + x.f1.size)) k p6 hko hkl p8 p10 p11 p12 p7, Option.bind_some]
        rw [← spendV_eq] at ka
        have w6 : wrap64 (u + 1 + (x.f1.size : Int) + spendL x.f2 (d - 1) (b - (u + 1 + x.f1.size)) 0) = spendV x d b u := by
          rw [← spendV_eq]
          generalize spendV x d b u = y at ka
          exact wrap_small (by omega) (by omega)
        rw [w6]
        exact iht (i + 1) _ k e3 e2 ka.1 ka.2 p4 p5 hto
    have := loop l 0 0 k (List.drop_zero) (Nat.zero_le _) (by omega) (by omega) (by omega) (Nat.le_refl _) ho
    exact this
/-- Whether spans are few and small enough to be looked at. -/
def fewL (l : List S33) : Bool := decide (spendL l 30 5000 0 < 3000)
theorem few_wt (l : List S33) (ho : okL l) (h : fewL l = true) : wtL l < 3000 := by
  unfold fewL at h
  have h1 := of_decide_eq_true h
  have := spend_wt (SizeOf.sizeOf l + 1) l 30 5000 0 (by omega) ho (by omega) (by omega) (by omega)
  omega
theorem Size_eq (l : List S33) (k : Nat) (ho : okL l) (hl : l.length ≤ 140737488351232) (hk : 2 * wtL l + 1 < k) : emendationref07_Size.f k l 30 = some (spendL l 30 5000 0) := by
  unfold emendationref07_Size.f
  rw [spend_eq (SizeOf.sizeOf l + 1) l 30 5000 k (by omega) ho hl (by omega) (by omega) (by omega) (by omega) hk]
  rfl
end Go.Proofs.YtbbkjdcpmhpkjaaDoor.Pure
/-! PSpanN -/
set_option linter.unusedSimpArgs false
set_option linter.unusedVariables false
namespace Go.Proofs.YtbbkjdcpmhpkjaaDoor.Pure
open Go.RowKit Go.Lib Go.Proofs.YtbbkjdcpmhpkjaaDoor.X Go.Proofs.YtbbkjdcpmhpkjaaDoor.G Go.Proofs.YtbbkjdcpmhpkjaaDoorW.PrintWords Go.Proofs.YtbbkjdcpmhpkjaaDoorW.PrintLast Go.Proofs.YtbbkjdcpmhpkjaaDoorW.PrintMore

mutual
/-- Whether a span can be, within an Emph or not, within a Link or not. -/
def oneV : S33 → Bool → Bool → Bool
  | ⟨k, s, c⟩, e, m => decide (checkV (L s) = 0) && (if k = 1 then c.isEmpty && textV (L s) else if k = 2 then c.isEmpty && !(L s).isEmpty && !(L s).contains 13 && !(L s).contains 10
      else if k = 3 then (L s).isEmpty && !c.isEmpty && !e && allV c 0 true m else if k = 4 then destL (L s) && !c.isEmpty && !m && allV c 0 e true else false)
/-- Whether spans can be, behind one of the kind last. -/
def allV : List S33 → Int → Bool → Bool → Bool
  | [], _, _, _ => true
  | x :: t, last, e, m => oneV x e m && !(decide (x.f0 = last) && decide (x.f0 ≤ 2)) && allV t x.f0 e m
end
theorem oneV_eq (x : S33) (e m : Bool) : oneV x e m = (decide (checkV (L x.f1) = 0) && (if x.f0 = 1 then x.f2.isEmpty && textV (L x.f1) else if x.f0 = 2 then x.f2.isEmpty && !(L x.f1).isEmpty && !(L x.f1).contains 13 && !(L x.f1).contains 10
      else if x.f0 = 3 then (L x.f1).isEmpty && !x.f2.isEmpty && !e && allV x.f2 0 true m else if x.f0 = 4 then destL (L x.f1) && !x.f2.isEmpty && !m && allV x.f2 0 e true else false)) := by cases x; rw [oneV]
theorem allV_cons (x : S33) (t : List S33) (last : Int) (e m : Bool) : allV (x :: t) last e m = (oneV x e m && !(decide (x.f0 = last) && decide (x.f0 ≤ 2)) && allV t x.f0 e m) := by rw [allV]
theorem empty_len {α : Type} (l : List α) : l.isEmpty = decide ((l.length : Int) = 0) := by cases l with | nil => rfl | cons a t => exact (decide_eq_false (by rw [List.length_cons]; omega)).symm
theorem some_len {α : Type} (l : List α) : (!l.isEmpty) = decide ((l.length : Int) > 0) := by cases l with | nil => rfl | cons a t => exact (decide_eq_true (by rw [List.length_cons]; omega)).symm
theorem some_bind {α β : Type} (a : α) (f : α → Option β) : (some a).bind f = f a := rfl
theorem containsAny_any (chars : List UInt8) : ∀ l : List UInt8, Lib.containsAny l chars = l.any (fun b => chars.contains b)
  | [] => rfl
  | b :: l => by
    have ih := containsAny_any chars l
    unfold Lib.containsAny at ih ⊢
    have hg := indexAny_ge chars l
    rw [Lib.indexAny, List.any_cons, ← ih]
    by_cases h : chars.contains b = true
    · rw [if_pos h, h]; rfl
    · rw [if_neg h, Bool.eq_false_iff.mpr h, Bool.false_or]
      by_cases g : Lib.indexAny l chars = -1
      · rw [if_pos (beq_iff_eq.2 g), g]
      · rw [if_neg (by simpa using g), decide_eq_true (by omega), decide_eq_true (by omega)]
theorem any_two (c d : UInt8) : ∀ l : List UInt8, l.any (fun b => b == c || b == d) = (l.contains c || l.contains d)
  | [] => rfl
  | b :: l => by
    rw [List.any_cons, any_two c d l, List.contains_cons, List.contains_cons]
    have e1 : (c == b) = (b == c) := Bool.beq_comm
    have e2 : (d == b) = (b == d) := Bool.beq_comm
    rw [e1, e2]
    cases (b == c) <;> cases (b == d) <;> simp
/-- A check in steps says what the plain words say. -/
theorem one_eq (R : Bool → Bool → List S33 → Option Bool) (k : Nat) (x : S33) (e m : Bool) (hs : x.f1.size ≤ 1000000) (hk : 2 * x.f1.size + 30 < k)
    (hR : ∀ e m, R e m x.f2 = some (allV x.f2 0 e m)) : span_within_one.f R k e m x.f0 x.f1 x.f2 = some (oneV x e m) := by
  have hsl : x.f1.size = (L x.f1).length := L_size x.f1
  unfold span_within_one.f
  rw [if_pos (Nat.le_trans hs (by decide)), utf_Check_eq _ (Nat.le_trans hs (by decide)), Option.bind_some, oneV_eq]
  by_cases hc : checkV (L x.f1) = 0
  rotate_left
  · rw [if_neg hc, decide_eq_false hc]; rfl
  rw [if_pos hc, decide_eq_true hc, Bool.true_and]
  by_cases k1 : x.f0 = 1
  · rw [if_pos k1, if_pos k1, empty_len]
    by_cases hn : (x.f2.length : Int) = 0
    · rw [if_pos hn, decide_eq_true hn, span_text_eq _ (Nat.le_trans hs (by decide)) k hk]; rfl
    · rw [if_neg hn, decide_eq_false hn]; rfl
  rw [if_neg k1, if_neg k1]
  by_cases k2 : x.f0 = 2
  · rw [if_pos k2, if_pos k2, empty_len]
    by_cases hn : (x.f2.length : Int) = 0
    · rw [if_pos hn, decide_eq_true hn, L_toList]
      by_cases he : L x.f1 = []
      · rw [if_pos he, he]; rfl
      · have h1 : (L x.f1).isEmpty = false := by cases h : L x.f1 with | nil => exact absurd h he | cons => rfl
        rw [if_neg he, h1]
        unfold strings_ContainsAny.f
        rw [if_pos ⟨by decide, by omega, by decide, by decide⟩, Option.bind_some]
        have : Lib.containsAny x.f1.data.toList (⟨#[13, 10]⟩ : ByteArray).data.toList = ((L x.f1).contains 13 || (L x.f1).contains 10) := by
          show Lib.containsAny (L x.f1) [13, 10] = _
          rw [containsAny_any]
          simp only [List.contains_cons, List.contains_nil, Bool.or_false, any_two]
        rw [this]
        simp
    · rw [if_neg hn, decide_eq_false hn]; rfl
  rw [if_neg k2, if_neg k2]
  by_cases k3 : x.f0 = 3
  · rw [if_pos k3, if_pos k3, some_len, L_toList]
    by_cases he : L x.f1 = []
    · rw [if_pos he, he]
      by_cases hn : (x.f2.length : Int) > 0
      · rw [if_pos hn, decide_eq_true hn]
        cases e with
        | true => rfl
        | false => rw [if_neg (by decide), hR]; rfl
      · rw [if_neg hn, decide_eq_false hn]; rfl
    · have h1 : (L x.f1).isEmpty = false := by cases h : L x.f1 with | nil => exact absurd h he | cons => rfl
      rw [if_neg he, h1]; rfl
  rw [if_neg k3, if_neg k3]
  by_cases k4 : x.f0 = 4
  · rw [if_pos k4, if_pos k4, some_len, span_dest_eq, Option.bind_some]
    by_cases he : destL (L x.f1) = true
    · rw [if_pos he, he]
      by_cases hn : (x.f2.length : Int) > 0
      · rw [if_pos hn, decide_eq_true hn]
        cases m with
        | true => rfl
        | false => rw [if_neg (by decide), hR]; rfl
      · rw [if_neg hn, decide_eq_false hn]; rfl
    · rw [if_neg he, Bool.eq_false_iff.mpr he]; rfl
  rw [if_neg k4, if_neg k4]
/-- The program's check of a list. -/
theorem all_eq (n : Nat) : ∀ (l : List S33) (e m : Bool) (k : Nat), SizeOf.sizeOf l < n → wtL l ≤ 1000000 → 3 * wtL l + 40 < k → span_within_all.f k e m l = some (allV l 0 e m) := by
  induction n with
  | zero => intro l e m k h; omega
  | succ n ih =>
    intro l e m k hn hw hk
    obtain ⟨k, rfl⟩ : ∃ j, k = j + 1 := ⟨k - 1, by omega⟩
    have hll := wtL_length l
    have loop : ∀ (t : List S33) (i : Nat) (last : Int) (k : Nat), l.drop i = t → 3 * wtL t + 39 < k → wtL t ≤ 1000000 → SizeOf.sizeOf t ≤ SizeOf.sizeOf l →
        span_within_all.l0 k last l (l.length : Int) (i : Int) e m = some (allV t last e m) := by
      intro t
      induction t with
      | nil =>
        intro i last k hdr hk _ _
        obtain ⟨k, rfl⟩ : ∃ m, k = m + 1 := ⟨k - 1, by omega⟩
        have := drop_nil_len hdr
        rw [span_within_all.l0, if_neg (by omega), allV]
      | cons x t iht =>
        intro i last k hdr hk hwt hsz
        obtain ⟨k, rfl⟩ : ∃ m, k = m + 1 := ⟨k - 1, by omega⟩
        obtain ⟨e1, e2, e3⟩ := rd_drop l i hdr
        have h1 := size_kids x t
        have h2 := size_tail x t
        rw [wtL_cons] at hk hwt
        have q1 : (i : Int) < (l.length : Int) := by omega
        have w5 : wrap64 ((i : Int) + 1) = ((i + 1 : Nat) : Int) := by rw [wrap_small (by omega) (by omega)]; omega
        have hone := one_eq (span_within_all.f k) k x e m (by omega) (by omega) (fun e m => ih x.f2 e m k (by omega) (by omega) (by omega))
        have hx := iht (i + 1) x.f0 k e3 (by omega) (by omega) (by omega)
        rw [span_within_all.l0, if_pos q1, if_pos (Int.natCast_nonneg i), if_pos q1, e1, hone, Option.bind_some, w5, hx, allV_cons]
        by_cases ho : oneV x e m = true
        · rw [if_pos ho, ho, Bool.true_and]
          by_cases hl : x.f0 = last
          · rw [if_pos hl, decide_eq_true hl]
            by_cases h2 : x.f0 ≤ 2
            · rw [if_pos h2, decide_eq_true h2]; rfl
            · rw [if_neg h2, decide_eq_false h2]; rfl
          · rw [if_neg hl, decide_eq_false hl]; rfl
        · rw [if_neg ho, Bool.eq_false_iff.mpr ho]; rfl
    rw [span_within_all.f]
    have := loop l 0 0 k List.drop_zero (by omega) hw (Nat.le_refl _)
    exact this
/-- The kind that stands ahead of place i. -/
def lastK (l : List S33) (i : Nat) : Int := if i = 0 then 0 else (l.getD (i - 1) z33).f0
theorem lastK_succ (l : List S33) (i : Nat) (x : S33) (h : rd_T33 l (i : Int) = x) : lastK l (i + 1) = x.f0 := by
  unfold lastK
  rw [if_neg (by omega), Nat.add_sub_cancel, ← h]
  unfold rd_T33
  rw [Int.toNat_natCast]
theorem kind_of_one (x : S33) (e m : Bool) (h : oneV x e m = true) : x.f0 ≠ 0 := by
  intro h0
  rw [oneV_eq, h0] at h
  simp at h
theorem pred_facts (i n : Nat) (h : i ≠ 0) (hn : i < n) (hb : n ≤ 1000000) : (i : Int) > 0 ∧ (0 : Int) ≤ ((i - 1 : Nat) : Int) ∧ ((i - 1 : Nat) : Int) < (n : Int) ∧ wrap64 ((i : Int) - 1) = ((i - 1 : Nat) : Int) := by
  obtain ⟨j, rfl⟩ : ∃ j, i = j + 1 := ⟨i - 1, by omega⟩
  rw [Nat.add_sub_cancel]
  refine ⟨by omega, by omega, by omega, ?_⟩
  rw [wrap_small (by omega) (by omega)]
  omega
def edgeB (b : UInt8) : Bool := b.toNat == 9 || b.toNat == 32 || b.toNat == 10
def headE : List UInt8 → Bool
  | [] => false
  | b :: _ => edgeB b
def lastE (l : List UInt8) : Bool := headE l.reverse
/-- Whether the ends are as they may be. -/
def endsOk (l : List S33) : Bool :=
  !(match l.head? with | some x => decide (x.f0 = 1) && headE (L x.f1) | none => false) && !(match l.getLast? with | some x => decide (x.f0 = 1) && lastE (L x.f1) | none => false)
/-- Normal form. -/
def rightL (l : List S33) : Bool := allV l 0 false false && endsOk l
theorem all_one : ∀ (l : List S33) (last : Int) (e m : Bool), allV l last e m = true → ∀ y ∈ l, oneV y e m = true
  | [], _, _, _, _, y, hy => by cases hy
  | x :: t, last, e, m, h, y, hy => by
    rw [allV_cons] at h
    have h1 := Bool.and_eq_true_iff.1 h
    have h2 := Bool.and_eq_true_iff.1 h1.1
    rcases List.mem_cons.1 hy with rfl | hy
    · exact h2.1
    · exact all_one t x.f0 e m h1.2 y hy
theorem one_text (x : S33) (e m : Bool) (h : oneV x e m = true) (h1 : x.f0 = 1) : textV (L x.f1) = true := by
  rw [oneV_eq, if_pos h1] at h
  exact (Bool.and_eq_true_iff.1 (Bool.and_eq_true_iff.1 h).2).2
theorem text_ne (l : List UInt8) (h : textV l = true) : l ≠ [] := by
  intro e
  subst e
  cases h
theorem bt_last (s : ByteArray) (h : L s ≠ []) (hs : s.size ≤ 1000000) : wrap64 ((s.size : Int) - 1) = ((s.size - 1 : Nat) : Int) ∧ ((s.size - 1 : Nat) : Int) < (s.size : Int) ∧ ∃ b : UInt8, bt s ((s.size - 1 : Nat) : Int) = (b.toNat : Int) ∧ lastE (L s) = edgeB b := by
  have hsl : s.size = (L s).length := L_size s
  have h0 : 0 < (L s).length := List.length_pos_iff.2 h
  refine ⟨?_, by omega, (L s)[s.size - 1]'(by omega), bt_L s _ (by omega), ?_⟩
  · rw [wrap_small (by omega) (by omega)]; omega
  · unfold lastE
    have : (L s).reverse = (L s).reverse.head (by simpa using h) :: (L s).reverse.tail := (List.cons_head_tail _).symm
    rw [this, headE, List.head_reverse, List.getLast_eq_getElem]
    simp only [hsl]
theorem ends_eq (E : Int → Option Bool) (hE : ∀ b : UInt8, E (b.toNat : Int) = some (edgeB b)) (l : List S33) (e m : Bool) (ha : allV l 0 e m = true) (hw : wtL l ≤ 1000000) (hsz : ∀ y ∈ l, y.f1.size ≤ 1000000) :
    (if (l.length : Int) = 0 then (some true) else (if 0 < (l.length : Int) then (if 0 ≤ (wrap64 ((l.length : Int) - 1)) then (if (wrap64 ((l.length : Int) - 1)) < (l.length : Int) then (if ((rd_T33 l 0).f0) = 1 then (if 0 < (((rd_T33 l 0).f1).size : Int) then ((E (bt ((rd_T33 l 0).f1) 0)).bind fun t186 => (if t186 = true then (some false) else (if ((rd_T33 l (wrap64 ((l.length : Int) - 1))).f0) = 1 then (if 0 ≤ (wrap64 ((((rd_T33 l (wrap64 ((l.length : Int) - 1))).f1).size : Int) - 1)) then (if (wrap64 ((((rd_T33 l (wrap64 ((l.length : Int) - 1))).f1).size : Int) - 1)) < (((rd_T33 l (wrap64 ((l.length : Int) - 1))).f1).size : Int) then ((E (bt ((rd_T33 l (wrap64 ((l.length : Int) - 1))).f1) (wrap64 ((((rd_T33 l (wrap64 ((l.length : Int) - 1))).f1).size : Int) - 1)))).bind fun t187 => (some (!t187))) else (none)) else (none)) else (some true)))) else (none)) else (if ((rd_T33 l (wrap64 ((l.length : Int) - 1))).f0) = 1 then (if 0 ≤ (wrap64 ((((rd_T33 l (wrap64 ((l.length : Int) - 1))).f1).size : Int) - 1)) then (if (wrap64 ((((rd_T33 l (wrap64 ((l.length : Int) - 1))).f1).size : Int) - 1)) < (((rd_T33 l (wrap64 ((l.length : Int) - 1))).f1).size : Int) then ((E (bt ((rd_T33 l (wrap64 ((l.length : Int) - 1))).f1) (wrap64 ((((rd_T33 l (wrap64 ((l.length : Int) - 1))).f1).size : Int) - 1)))).bind fun t188 => (some (!t188))) else (none)) else (none)) else (some true))) else (none)) else (none)) else (none))) = some (endsOk l) := by
  cases l with
  | nil => rfl
  | cons x t =>
    have hll := wtL_length (x :: t)
    have e1 : rd_T33 (x :: t) 0 = x := rfl
    have hlen : 0 < (x :: t).length := by rw [List.length_cons]; omega
    obtain ⟨y, hy⟩ : ∃ y, (x :: t).getLast? = some y := ⟨_, List.getLast?_eq_some_getLast (by simp)⟩
    have hyl : (x :: t)[(x :: t).length - 1]? = some y := by rw [← hy, List.getLast?_eq_getElem?]
    have w6 : wrap64 (((x :: t).length : Int) - 1) = (((x :: t).length - 1 : Nat) : Int) := by rw [wrap_small (by omega) (by omega)]; omega
    have e2 : rd_T33 (x :: t) (((x :: t).length - 1 : Nat) : Int) = y := by
      unfold rd_T33
      rw [Int.toNat_natCast, List.getD_eq_getElem?_getD, hyl]
      rfl
    have c1 : ¬ ((x :: t).length : Int) = 0 := by omega
    have c2 : (0 : Int) < ((x :: t).length : Int) := by omega
    have c3 : (((x :: t).length - 1 : Nat) : Int) < ((x :: t).length : Int) := by omega
    have hym : y ∈ x :: t := List.mem_of_getElem? hyl
    have hox := all_one _ _ _ _ ha x (List.mem_cons_self)
    have hoy := all_one _ _ _ _ ha y hym
    have hsx := hsz x List.mem_cons_self
    have hsy := hsz y hym
    clear hll hyl
    rw [w6, e1, e2]
    unfold endsOk
    rw [hy, List.head?_cons, if_neg c1, if_pos c2, if_pos (Int.natCast_nonneg _), if_pos c3]
    dsimp only
    have hend : (if y.f0 = 1 then (if 0 ≤ (wrap64 ((y.f1.size : Int) - 1)) then (if (wrap64 ((y.f1.size : Int) - 1)) < (y.f1.size : Int) then ((E (bt y.f1 (wrap64 ((y.f1.size : Int) - 1)))).bind fun t188 => (some (!t188))) else none) else none) else (some true)) = some (!(decide (y.f0 = 1) && lastE (L y.f1))) := by
      by_cases hk : y.f0 = 1
      · obtain ⟨w7, w8, b, w9, w10⟩ := bt_last y.f1 (text_ne _ (one_text y e m hoy hk)) hsy
        rw [if_pos hk, w7, if_pos (Int.natCast_nonneg _), if_pos w8, w9, hE, decide_eq_true hk, w10]
        rfl
      · rw [if_neg hk, decide_eq_false hk]; rfl
    rw [hend]
    by_cases hk : x.f0 = 1
    · have hne := text_ne _ (one_text x e m hox hk)
      obtain ⟨b, r, hb⟩ : ∃ b r, L x.f1 = b :: r := by
        cases h : L x.f1 with
        | nil => exact absurd h hne
        | cons b r => exact ⟨b, r, rfl⟩
      have hsp : (0 : Int) < (x.f1.size : Int) := by rw [L_size, hb, List.length_cons]; omega
      have hbt : bt x.f1 0 = (b.toNat : Int) := bt_d x.f1 0 b r hb
      rw [if_pos hk, if_pos hsp, hbt, hE, Option.bind_some, decide_eq_true hk, hb, headE]
      cases edgeB b with
      | true => rfl
      | false => rfl
    · rw [if_neg hk, decide_eq_false hk]
      rfl
theorem size_wt : ∀ (l : List S33), ∀ y ∈ l, y.f1.size ≤ wtL l
  | [], y, hy => by cases hy
  | x :: t, y, hy => by
    rw [wtL_cons]
    rcases List.mem_cons.1 hy with rfl | hy
    · omega
    · have := size_wt t y hy; omega
theorem Right_eq (l : List S33) (k : Nat) (hw : wtL l ≤ 1000000) (hk : 3 * wtL l + 40 < k) : span_Right.f k l = some (rightL l) := by
  unfold span_Right.f rightL
  rw [all_eq (SizeOf.sizeOf l + 1) l false false k (by omega) hw hk, Option.bind_some]
  cases ha : allV l 0 false false with
  | false => rfl
  | true =>
    rw [if_pos rfl, Bool.true_and]
    exact ends_eq span_edge.f edge_eq l false false ha hw (fun y hy => Nat.le_trans (size_wt l y hy) hw)
end Go.Proofs.YtbbkjdcpmhpkjaaDoor.Pure
/-! PSpanL -/
set_option linter.unusedSimpArgs false
set_option linter.unusedVariables false
namespace Go.Proofs.YtbbkjdcpmhpkjaaDoor.Pure
open Go.RowKit Go.Lib Go.Proofs.YtbbkjdcpmhpkjaaDoor.X Go.Proofs.YtbbkjdcpmhpkjaaDoor.G Go.Proofs.YtbbkjdcpmhpkjaaDoorW.PrintWords Go.Proofs.YtbbkjdcpmhpkjaaDoorW.PrintLast Go.Proofs.YtbbkjdcpmhpkjaaDoorW.PrintMore

theorem plainV_eq (x : S33) : plainV x = (if x.f0 = 1 ∨ x.f0 = 2 then L x.f1 else []) ++ plainL x.f2 := by cases x; rw [plainV]; rfl
theorem plainL_cons (x : S33) (t : List S33) : plainL (x :: t) = plainV x ++ plainL t := by rw [plainL]
theorem plain_wt (n : Nat) : ∀ l : List S33, SizeOf.sizeOf l < n → (plainL l).length ≤ wtL l := by
  induction n with
  | zero => intro l h; omega
  | succ n ih =>
    intro l hn
    cases l with
    | nil => simp [plainL, wtL]
    | cons x t =>
      have h1 := size_kids x t
      have h2 := size_tail x t
      have k1 := ih x.f2 (by omega)
      have k2 := ih t (by omega)
      have hsl : x.f1.size = (L x.f1).length := L_size x.f1
      rw [plainL_cons, plainV_eq, wtL_cons, List.length_append, List.length_append]
      split
      · omega
      · rw [List.length_nil]; omega
theorem Plain_eq (l : List S33) (hw : wtL l ≤ 1000000) : span_Plain.f l = some ⟨(plainL l).toArray⟩ := by
  unfold span_Plain.f
  have := plain_wt (SizeOf.sizeOf l + 1) l (by omega)
  rw [if_pos (by omega)]
/-- In how many lines spans stand. -/
def linesL (l : List S33) : Int := 1 + ((plainL l).count 10 : Nat)
theorem Lines_eq (l : List S33) (hw : wtL l ≤ 1000000) : span_Lines.f l = some (linesL l) := by
  have hp := plain_wt (SizeOf.sizeOf l + 1) l (by omega)
  have hc := List.count_le_length (l := plainL l) (a := (10 : UInt8))
  unfold span_Lines.f
  rw [Plain_eq l hw, Option.bind_some]
  have : strings_Count.f ⟨(plainL l).toArray⟩ (⟨#[10]⟩ : ByteArray) = some (((plainL l).count 10 : Nat) : Int) := by
    unfold strings_Count.f
    show some (((Lib.countByte (plainL l).toArray.toList 10 : Nat)) : Int) = _
    rw [List.toList_toArray]
    rfl
  rw [this, Option.bind_some, wrap_small (by omega) (by omega)]
  rfl
theorem wt_text (k : Int) (s : ByteArray) : wtL [(⟨k, s, []⟩ : S33)] = 1 + s.size := by rw [wtL_cons]; simp [wtL]
end Go.Proofs.YtbbkjdcpmhpkjaaDoor.Pure
/-! PLabel -/
set_option linter.unusedSimpArgs false
set_option linter.unusedVariables false
namespace Go.Proofs.YtbbkjdcpmhpkjaaDoor.Pure
open Go.RowKit Go.Lib Go.Proofs.YtbbkjdcpmhpkjaaDoor.X Go.Proofs.YtbbkjdcpmhpkjaaDoor.G Go.Proofs.YtbbkjdcpmhpkjaaDoorW.PrintWords Go.Proofs.YtbbkjdcpmhpkjaaDoorW.PrintLast Go.Proofs.YtbbkjdcpmhpkjaaDoorW.PrintMore
/-- One line of text. -/
def lineV (l : List UInt8) : Bool := decide (checkV l = 0) && !l.contains 13 && !l.contains 10
/-- A label. -/
def labelV (l : List UInt8) : Bool := !l.isEmpty && lineV l && (trim l == l) && !l.contains 91 && !l.contains 93 && !l.contains 92
theorem any_three (c d e : UInt8) : ∀ l : List UInt8, l.any (fun b => b == c || (b == d || b == e)) = (l.contains c || (l.contains d || l.contains e))
  | [] => rfl
  | b :: l => by
    rw [List.any_cons, any_three c d e l, List.contains_cons, List.contains_cons, List.contains_cons]
    have e1 : (c == b) = (b == c) := Bool.beq_comm
    have e2 : (d == b) = (b == d) := Bool.beq_comm
    have e3 : (e == b) = (b == e) := Bool.beq_comm
    rw [e1, e2, e3]
    cases (b == c) <;> cases (b == d) <;> cases (b == e) <;> simp
theorem empty_iff (s : ByteArray) : s.toList = ([] : List UInt8) ↔ L s = [] := by rw [L_toList]
theorem tree_line_eq (s : ByteArray) (hs : s.size ≤ 1000000) : tree_line.f s = some (lineV (L s)) := by
  unfold tree_line.f lineV
  rw [if_pos (by omega), utf_Check_eq s (by omega), Option.bind_some]
  by_cases h : checkV (L s) = 0
  · rw [if_pos h, decide_eq_true h]
    unfold strings_ContainsAny.f
    rw [if_pos ⟨by decide, by omega, by decide, by decide⟩, Option.bind_some]
    have : Lib.containsAny s.data.toList (⟨#[13, 10]⟩ : ByteArray).data.toList = ((L s).contains 13 || (L s).contains 10) := by
      show Lib.containsAny (L s) [13, 10] = _
      rw [containsAny_any]
      simp only [List.contains_cons, List.contains_nil, Bool.or_false, any_two]
    rw [this]
    simp
  · rw [if_neg h, decide_eq_false h]; rfl
theorem tree_Label_eq (s : ByteArray) (hs : s.size ≤ 1000000) : tree_Label.f s = some (labelV (L s)) := by
  unfold tree_Label.f labelV
  by_cases he : L s = []
  · rw [if_pos ((empty_iff s).2 he), he]; rfl
  have h1 : (L s).isEmpty = false := by cases h : L s with | nil => exact absurd h he | cons => rfl
  rw [if_neg (fun h => he ((empty_iff s).1 h)), tree_line_eq s hs, Option.bind_some, h1]
  cases hl : lineV (L s) with
  | false => rfl
  | true =>
    rw [if_pos rfl, lines_Trim_eq s (by omega), Option.bind_some, L_toList, L_toList, L_mk]
    by_cases ht : trim (L s) = L s
    · rw [if_pos ht, beq_iff_eq.2 ht]
      unfold strings_ContainsAny.f
      rw [if_pos ⟨by decide, by omega, by decide, by decide⟩, Option.bind_some]
      have : Lib.containsAny s.data.toList (⟨#[91, 93, 92]⟩ : ByteArray).data.toList = ((L s).contains 91 || ((L s).contains 93 || (L s).contains 92)) := by
        show Lib.containsAny (L s) [91, 93, 92] = _
        rw [containsAny_any]
        simp only [List.contains_cons, List.contains_nil, Bool.or_false, any_three]
      rw [this]
      cases (L s).contains 91 <;> cases (L s).contains 93 <;> cases (L s).contains 92 <;> rfl
    · rw [if_neg ht, beq_eq_false_iff_ne.2 ht]; rfl
end Go.Proofs.YtbbkjdcpmhpkjaaDoor.Pure
/-! PTree0 -/
set_option linter.unusedSimpArgs false
set_option linter.unusedVariables false
namespace Go.Proofs.YtbbkjdcpmhpkjaaDoor.Pure
open Go.RowKit Go.Lib Go.Proofs.YtbbkjdcpmhpkjaaDoor.X Go.Proofs.YtbbkjdcpmhpkjaaDoor.G Go.Proofs.YtbbkjdcpmhpkjaaDoorW.PrintWords Go.Proofs.YtbbkjdcpmhpkjaaDoorW.PrintLast Go.Proofs.YtbbkjdcpmhpkjaaDoorW.PrintMore
abbrev BK := S28
def wtT : List ByteArray → Nat
  | [] => 0
  | s :: t => 1 + s.size + wtT t
theorem wtT_mem : ∀ (l : List ByteArray), ∀ s ∈ l, s.size ≤ wtT l
  | [], s, h => by cases h
  | x :: t, s, h => by
    rw [wtT]
    rcases List.mem_cons.1 h with rfl | h
    · omega
    · have := wtT_mem t s h; omega
theorem wtT_length : ∀ (l : List ByteArray), l.length ≤ wtT l
  | [] => Nat.le_refl _
  | x :: t => by have := wtT_length t; rw [wtT, List.length_cons]; omega
mutual
/-- How much there is, however deep. -/
def wtB : BK → Nat
  | ⟨_, _, s, ls, sp, c⟩ => 1 + s.size + wtT ls + wtL sp + wtBL c
def wtBL : List BK → Nat
  | [] => 0
  | x :: t => wtB x + wtBL t
end
theorem wtB_eq (x : BK) : wtB x = 1 + x.f2.size + wtT x.f3 + wtL x.f4 + wtBL x.f5 := by cases x; rw [wtB]
theorem wtBL_cons (x : BK) (t : List BK) : wtBL (x :: t) = wtB x + wtBL t := by rw [wtBL]
theorem wtBL_append (a b : List BK) : wtBL (a ++ b) = wtBL a + wtBL b := by
  induction a with
  | nil => simp [wtBL]
  | cons x t ih => rw [List.cons_append, wtBL_cons, wtBL_cons, ih]; omega
theorem wtBL_length (l : List BK) : l.length ≤ wtBL l := by
  induction l with
  | nil => simp [wtBL]
  | cons x t ih => rw [wtBL_cons, wtB_eq, List.length_cons]; omega
/-- A Code's info. -/
def infoV (l : List UInt8) : Bool := lineV l && (trim l == l) && !l.contains 96
/-- Whether a block that has no kids can be. -/
def leafV (k lv : Int) (info : ByteArray) (ls : List ByteArray) (sp : List S33) (c : List BK) : Bool :=
  if k = 1 then decide (lv = 0) && (L info).isEmpty && ls.isEmpty && !sp.isEmpty && c.isEmpty && rightL sp
  else if k = 2 then decide (1 ≤ lv) && decide (lv ≤ 6) && (L info).isEmpty && ls.isEmpty && c.isEmpty && rightL sp && decide (linesL sp = 1)
  else if k = 3 then decide (lv = 0) && (L info).isEmpty && ls.isEmpty && sp.isEmpty && c.isEmpty
  else if k = 4 then decide (lv = 0) && sp.isEmpty && c.isEmpty && infoV (L info) && ls.all (fun s => lineV (L s))
  else if k = 8 then decide (lv = 0) && sp.isEmpty && c.isEmpty && labelV (L info) && decide (ls.length = 1) && destL (L (ls.getD 0 ByteArray.empty))
  else false
mutual
/-- Whether a block can be, in a list or not. -/
def oneB : BK → Bool → Bool
  | ⟨k, lv, s, ls, sp, c⟩, q => (decide (k = 7) == q) && (if k = 5 ∨ k = 6 ∨ k = 7 then decide (lv = 0) && (L s).isEmpty && ls.isEmpty && sp.isEmpty && (decide (k ≠ 6) || !c.isEmpty) && allB c 0 (decide (k = 6)) else leafV k lv s ls sp c)
/-- Whether blocks can be, behind one of the kind last. -/
def allB : List BK → Int → Bool → Bool
  | [], _, _ => true
  | x :: t, last, q => !(decide (x.f0 = 6) && decide (last = 6)) && oneB x q && allB t x.f0 q
end
theorem oneB_eq (x : BK) (q : Bool) : oneB x q = ((decide (x.f0 = 7) == q) && (if x.f0 = 5 ∨ x.f0 = 6 ∨ x.f0 = 7 then decide (x.f1 = 0) && (L x.f2).isEmpty && x.f3.isEmpty && x.f4.isEmpty && (decide (x.f0 ≠ 6) || !x.f5.isEmpty) && allB x.f5 0 (decide (x.f0 = 6)) else leafV x.f0 x.f1 x.f2 x.f3 x.f4 x.f5)) := by cases x; rw [oneB]
theorem allB_cons (x : BK) (t : List BK) (last : Int) (q : Bool) : allB (x :: t) last q = (!(decide (x.f0 = 6) && decide (last = 6)) && oneB x q && allB t x.f0 q) := by rw [allB]
end Go.Proofs.YtbbkjdcpmhpkjaaDoor.Pure
