/- Given contracts for the printed functions: strings.IndexAny, strings.Trim, strings.Join, each out of the shelf's contract (or this session's IndexAny text) at this dump. -/
import Derived.Test.YtpofifheicbilaaDoorShelf
import Derived.Test.YtpofifheicbilaaDoorStrAny
import Derived.Shelf.Strings.SlTrimAscii
import Derived.Test.YtpofifheicbilaaDoorWMore
namespace Go.Proofs.YtpofifheicbilaaDoor.G
open Go.Shelf Go.RowKit Go.Proofs.YtpofifheicbilaaDoorW.PrintWords Go.Proofs.YtpofifheicbilaaDoorW.PrintLast Go.Proofs.YtpofifheicbilaaDoorW.PrintMore

def asciiB (s : ByteArray) : Bool := s.data.toList.all (fun b => decide (b.toNat < 128))

def strings_IndexAny.f (a0 a1 : ByteArray) : Option Int :=
  if 2 ≤ a1.size ∧ a0.size < 4294967281 ∧ a1.size < 4294967281 ∧ asciiB a1 = true then some (Lib.indexAny a0.data.toList a1.data.toList) else none
theorem strings_IndexAny.calls (a0 a1 : ByteArray) (r : Int) (w : World) (h : strings_IndexAny.f a0 a1 = some r) :
    Calls Tryd.prog 24 #[.string a0, .string a1] w fun e w' => e = .returned (.int .i64 r) ∧ Below w.heap.size w w' := by
  unfold strings_IndexAny.f at h
  split at h
  · rename_i c
    obtain ⟨h2, hs, hcs, hac⟩ := c
    obtain rfl := Option.some.inj h
    exact Any.strings_IndexAny_set Tryd.lays153 (by kernel_rfl) a0 a1 w h2 hs hcs (ascii_of_all hac)
  · cases h

def strings_Trim.f (a0 a1 : ByteArray) : Option ByteArray :=
  if a0.size ≤ 9223372036854775807 ∧ a1.size < 4294967281 ∧ asciiB a1 = true then some ⟨(Lib.trimS a0.data.toList a1.data.toList).toArray⟩ else none
theorem strings_Trim.calls (a0 a1 : ByteArray) (r : ByteArray) (w : World) (h : strings_Trim.f a0 a1 = some r) :
    Calls Tryd.prog 27 #[.string a0, .string a1] w fun e w' => e = .returned (.string r) ∧ Below w.heap.size w w' := by
  unfold strings_Trim.f at h
  split at h
  · rename_i c
    obtain ⟨hs, hcs, hac⟩ := c
    obtain rfl := Option.some.inj h
    exact Any.strings_Trim_laid Tryd.lays160 (by kernel_rfl) a0 a1 w hs hcs (ascii_of_all hac)
  · cases h

def strings_Join.f (l0 : List ByteArray) (a1 : ByteArray) : Option ByteArray :=
  if l0.length ≤ 140737488355328 ∧ (Lib.join (l0.map (·.data.toList)) a1.data.toList).length ≤ 140737488355328 then some ⟨(Lib.join (l0.map (·.data.toList)) a1.data.toList).toArray⟩ else none
theorem strings_Join.calls (A0 : Option Addr) (c0 : Nat) (l0 : List ByteArray) (a1 : ByteArray) (r : ByteArray) (w : World) (hr0 : Kd.C Kd.string w A0 l0.length l0) (hc0 : l0.length ≤ c0) (h : strings_Join.f l0 a1 = some r) :
    Calls Tryd.prog 28 #[.slice A0 l0.length c0, .string a1] w fun e w' => e = .returned (.string r) ∧ Below w.heap.size w w' := by
  unfold strings_Join.f at h
  split at h
  · rename_i c
    obtain ⟨hl, hlen⟩ := c
    obtain rfl := Option.some.inj h
    rcases Nat.eq_zero_or_pos l0.length with h0 | h0
    · obtain rfl := List.eq_nil_of_length_eq_zero h0
      refine (Tryd.strings_Join_none A0 c0 a1 w).mono ?_
      rintro e w' ⟨rfl, rfl⟩
      exact ⟨rfl, Below.refl _ _⟩
    · obtain ⟨ad, rfl, hcell⟩ := hr0.2.2 h0
      have hcell' : ∀ j x, l0[j]? = some x → w.cell? (ad.add j) = some (.string x) := by
        intro j x hj
        obtain ⟨cs, hcs, hK, hu⟩ := hcell j x hj
        have hcs' : cs = [.string x] := hK
        subst hcs'
        have := hu 0 _ rfl
        rw [show Kd.string.sz = 1 from rfl, Nat.mul_one, Nat.add_zero] at this
        exact this
      obtain ⟨bk, o, spot⟩ := ad
      have hspot : spot = none := by simpa [Addr.add] using World.cell?_spot (hcell' 0 _ (List.getElem?_eq_getElem h0))
      subst hspot
      have hc2 : ∀ j x, l0[j]? = some x → w.cell? ⟨bk, o + j, none⟩ = some (.string x) := fun j x hj => by rw [← Go.WideShapes.add_plain]; exact hcell' j x hj
      exact Tryd.strings_Join bk o c0 l0 a1 w hc2 (World.block_lt_of_cell? w _ (hc2 0 _ (List.getElem?_eq_getElem h0))) hl hc0 hlen
  · cases h
end Go.Proofs.YtpofifheicbilaaDoor.G
