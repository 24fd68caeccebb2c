/- Plain words on strings as lists of bytes, for the pure statements. -/
import Derived.Test.YtmfffpfenhgjbaaDoorWAll
import Derived.Lib.Strings
import Derived.Lib.SlTrimSet
import Derived.Lib.IndexAny
namespace Go.Proofs.YtmfffpfenhgjbaaDoor.Pure
open Go.RowKit Go.Proofs.YtmfffpfenhgjbaaDoorW.PrintWords Go.Proofs.YtmfffpfenhgjbaaDoorW.PrintLast Go.Proofs.YtmfffpfenhgjbaaDoorW.PrintMore

/-- A string's bytes. -/
def L (s : ByteArray) : List UInt8 := s.data.toList
theorem L_mk (l : List UInt8) : L ⟨l.toArray⟩ = l := by simp [L]
theorem L_size (s : ByteArray) : s.size = (L s).length := Lib.size_eq s
theorem L_toList (s : ByteArray) : s.toList = L s := Lib.toList_data s
theorem L_ext {s t : ByteArray} (h : L s = L t) : s = t := by
  obtain ⟨⟨a⟩⟩ := s
  obtain ⟨⟨b⟩⟩ := t
  simp only [L] at h
  subst h
  rfl
theorem L_mk' (s : ByteArray) : (⟨(L s).toArray⟩ : ByteArray) = s := L_ext (L_mk _)
theorem L_append (s t : ByteArray) : L (s ++ t) = L s ++ L t := by
  simp [L]
theorem L_extract (s : ByteArray) (a b : Nat) : L (s.extract a b) = ((L s).drop a).take (b - a) := by
  rw [← L_toList, ← L_toList]
  rw [Lib.toList_data s]
  exact Lib.extract_toList s a b
theorem L_from (s : ByteArray) (a : Nat) : L (s.extract a s.size) = (L s).drop a := by
  rw [L_extract, L_size]
  exact List.take_of_length_le (by simp)
theorem L_upto (s : ByteArray) (b : Nat) : L (s.extract 0 b) = (L s).take b := by
  rw [L_extract]; simp
theorem size_append (s t : ByteArray) : (s ++ t).size = s.size + t.size := by
  rw [L_size, L_append, List.length_append, ← L_size, ← L_size]
theorem bt_L (s : ByteArray) (i : Nat) (h : i < (L s).length) : bt s (i : Int) = (((L s)[i]'h).toNat : Int) := by
  have h' : i < s.size := by rw [L_size]; exact h
  unfold bt
  simp only [Int.toNat_natCast]
  rw [dif_pos h']
  have h1 := Lib.data_getElem? s i h'
  have h2 : (L s)[i]? = some ((L s)[i]'h) := List.getElem?_eq_getElem h
  have h3 : s[i] = (L s)[i] := Option.some.inj (h1.symm.trans h2)
  exact congrArg (fun b : UInt8 => (b.toNat : Int)) h3
theorem bt_drop (s : ByteArray) (i : Nat) {b : UInt8} {t : List UInt8} (h : (L s).drop i = b :: t) : bt s (i : Int) = (b.toNat : Int) ∧ i < s.size ∧ (L s).drop (i + 1) = t := by
  have hl : i < (L s).length := by
    rcases Nat.lt_or_ge i (L s).length with h1 | h1
    · exact h1
    · rw [List.drop_eq_nil_of_le h1] at h; cases h
  rw [List.drop_eq_getElem_cons hl] at h
  have h1 := (List.cons.inj h).1
  have h2 := (List.cons.inj h).2
  exact ⟨by rw [bt_L s i hl, h1], by rw [L_size]; exact hl, h2⟩
theorem wrap_small {x : Int} (h0 : -9223372036854775808 ≤ x) (h1 : x ≤ 9223372036854775807) : wrap64 x = x := by
  unfold wrap64; omega
theorem byte_lt (b : UInt8) : (b.toNat : Int) < 256 := by have := b.toNat_lt; omega
/-- The byte is c. -/
def isB (c : Int) (b : UInt8) : Bool := decide ((b.toNat : Int) = c)
theorem isB_iff (c : Int) (b : UInt8) : isB c b = true ↔ (b.toNat : Int) = c := by simp [isB]
theorem toNat_inj {a b : UInt8} (h : a.toNat = b.toNat) : a = b := UInt8.toNat_inj.1 h
end Go.Proofs.YtmfffpfenhgjbaaDoor.Pure
