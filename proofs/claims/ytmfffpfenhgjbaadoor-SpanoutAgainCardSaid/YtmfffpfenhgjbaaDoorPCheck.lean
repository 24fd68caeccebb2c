/- utf.Check: it says checkV of the bytes. -/
import Derived.Test.YtmfffpfenhgjbaaDoorBase
import Derived.Test.YtmfffpfenhgjbaaDoorX1
import Derived.Lib.IndexLaws
import Derived.Lib.IndexAny
set_option linter.unusedSimpArgs false
set_option linter.unusedVariables false
namespace Go.Proofs.YtmfffpfenhgjbaaDoor.Pure
open Go.RowKit Go.Lib Go.Proofs.YtmfffpfenhgjbaaDoor.X Go.Proofs.YtmfffpfenhgjbaaDoor.G Go.Proofs.YtmfffpfenhgjbaaDoorW.PrintWords Go.Proofs.YtmfffpfenhgjbaaDoorW.PrintLast Go.Proofs.YtmfffpfenhgjbaaDoorW.PrintMore
/-- What keeps bytes from being a text, as a number. -/
def checkV (l : List UInt8) : Int := if l.length > 1048576 then 4 else if l.contains 0 = true then 3 else if validD l = true then 0 else 2
theorem nums_bytes (s : ByteArray) : Lib.bytesOf (Go.Proofs.YtmfffpfenhgjbaaDoorW.PrintWords.bytesOf s) = L s := by
  unfold Lib.bytesOf Go.Proofs.YtmfffpfenhgjbaaDoorW.PrintWords.bytesOf L
  rw [List.map_map]
  have : ∀ l : List UInt8, l.map ((fun n : Int => UInt8.ofNat n.toNat) ∘ fun b : UInt8 => (b.toNat : Int)) = l := by
    intro l
    induction l with
    | nil => rfl
    | cons b t ih => rw [List.map_cons, ih]; simp
  exact this _
theorem isByte_bytes (s : ByteArray) : (Go.Proofs.YtmfffpfenhgjbaaDoorW.PrintWords.bytesOf s).all isByte = true := by
  rw [List.all_eq_true]
  intro x hx
  unfold Go.Proofs.YtmfffpfenhgjbaaDoorW.PrintWords.bytesOf at hx
  obtain ⟨b, _, rfl⟩ := List.mem_map.1 hx
  have := b.toNat_lt
  simp [isByte]
  omega
theorem contains_zero (l : List UInt8) : l.contains 0 = decide (0 ≤ indexByte l 0) := contains_iff_indexByte l 0
theorem utf_Check_nums (l : List Int) (hb : l.all isByte = true) (hl : l.length ≤ 140737488351232) : utf_Check.f l = some (checkV (Lib.bytesOf l)) := by
  unfold utf_Check.f checkV
  have hlen : (Lib.bytesOf l).length = l.length := by simp [Lib.bytesOf]
  rw [hlen]
  by_cases h : l.length > 1048576
  · rw [if_pos (by omega), if_pos h]
  rw [if_neg (by omega), if_neg h]
  have hv : utf8_Valid.f l = some (validD (Lib.bytesOf l)) := by
    unfold utf8_Valid.f
    rw [if_pos ⟨by omega, hb⟩]
  by_cases h0 : l.length = 0
  · obtain rfl := List.eq_nil_of_length_eq_zero h0
    rw [hv]
    rfl
  have hi : bytes_IndexByte.f l 0 = some (indexByte (Lib.bytesOf l) 0) := by
    unfold bytes_IndexByte.f
    rw [if_neg h0]
    rfl
  rw [hi, Option.bind_some, contains_zero, hv]
  by_cases g : 0 ≤ indexByte (Lib.bytesOf l) 0
  · rw [if_pos g, if_pos (decide_eq_true g)]
  · rw [if_neg g, if_neg (by simpa using g), Option.bind_some]
    by_cases y : validD (Lib.bytesOf l) = true
    · rw [if_pos y, if_pos y]
    · rw [if_neg y, if_neg y]
theorem utf_Check_eq (s : ByteArray) (hs : s.size ≤ 140737488351232) : utf_Check.f (Go.Proofs.YtmfffpfenhgjbaaDoorW.PrintWords.bytesOf s) = some (checkV (L s)) := by
  rw [utf_Check_nums _ (isByte_bytes s) (by rw [Go.Proofs.YtmfffpfenhgjbaaDoorW.PrintWords.bytesOf_length]; exact hs), nums_bytes]
end Go.Proofs.YtmfffpfenhgjbaaDoor.Pure
