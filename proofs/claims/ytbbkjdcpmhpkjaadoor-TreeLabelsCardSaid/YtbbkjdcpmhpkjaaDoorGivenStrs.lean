/- Given contracts of package strings, each out of the shelf's contract at this dump. -/
import Derived.Test.YtbbkjdcpmhpkjaaDoorShelf
import Derived.Test.YtbbkjdcpmhpkjaaDoorStrAny
import Derived.Shelf.Strings.SlTrimAscii
import Derived.Lib.SplitLaws
import Derived.Test.YtbbkjdcpmhpkjaaDoorGivenTabs
import Derived.Test.YtbbkjdcpmhpkjaaDoorWMore
set_option linter.unusedVariables false
set_option maxRecDepth 100000
namespace Go.Proofs.YtbbkjdcpmhpkjaaDoor.G
open Go.Shelf Go.RowKit Go.Lib Go.Proofs Go.Proofs.YtbbkjdcpmhpkjaaDoorW.PrintWords Go.Proofs.YtbbkjdcpmhpkjaaDoorW.PrintLast Go.Proofs.YtbbkjdcpmhpkjaaDoorW.PrintMore

def asciiC (s : ByteArray) : Bool := s.data.toList.all (fun b => decide (b.toNat < 128))
def strings_ContainsAny.f (a0 a1 : ByteArray) : Option Bool :=
  if 2 ≤ a1.size ∧ a0.size < 4294967281 ∧ a1.size < 4294967281 ∧ asciiC a1 = true then some (Lib.containsAny a0.data.toList a1.data.toList) else none
theorem strings_ContainsAny.calls (a0 a1 : ByteArray) (r : Bool) (w : World) (h : strings_ContainsAny.f a0 a1 = some r) :
    Calls Tryd.prog 18 #[.string a0, .string a1] w fun e w' => e = .returned (.bool r) ∧ Below w.heap.size w w' := by
  unfold strings_ContainsAny.f at h
  split at h
  · rename_i c
    obtain ⟨h2, hs, hcs, hac⟩ := c
    obtain rfl := Option.some.inj h
    have cI := Any.strings_IndexAny_set Tryd.lays153 (by kernel_rfl) a0 a1 w h2 hs hcs (ascii_of_all hac)
    change Calls Tryd.prog 23 _ _ _ at cI
    go_enter Tryd.func18, Tryd.ntmps18
    go_wp2_with (go_at_call 23; refine cI.mono ?_; rintro e w1 ⟨rfl, hb1⟩)
    go_ret
    exact ⟨rfl, hb1⟩
  · cases h
def strings_ContainsRune.f (a0 : ByteArray) (a1 : Int) : Option Bool :=
  if 0 ≤ a1 ∧ a1 < 128 then some (decide (0 ≤ Lib.indexByte a0.data.toList a1.toNat.toUInt8)) else none
theorem strings_ContainsRune.calls (a0 : ByteArray) (a1 : Int) (r : Bool) (w : World) (h : strings_ContainsRune.f a0 a1 = some r) :
    Calls Tryd.prog 49 #[.string a0, .int .i32 a1] w fun e w' => e = .returned (.bool r) ∧ Below w.heap.size w w' := by
  unfold strings_ContainsRune.f at h
  split at h
  · rename_i c
    obtain rfl := Option.some.inj h
    refine (Tryd.strings_ContainsRune_ascii a0 a1 w c.1 c.2).mono ?_
    rintro e w' ⟨rfl, rfl⟩
    exact ⟨rfl, Below.refl _ _⟩
  · cases h
def strings_Count.f (a0 a1 : ByteArray) : Option Int := match a1.data.toList with
  | [c] => some (Lib.countByte a0.data.toList c)
  | _ => none
theorem strings_Count.calls (a0 a1 : ByteArray) (r : Int) (w : World) (h : strings_Count.f a0 a1 = some r) :
    Calls Tryd.prog 57 #[.string a0, .string a1] w fun e w' => e = .returned (.int .i64 r) ∧ Below w.heap.size w w' := by
  unfold strings_Count.f at h
  split at h
  · rename_i c hc
    obtain rfl := Option.some.inj h
    have e1 : a1 = ⟨#[c]⟩ := by
      obtain ⟨⟨l⟩⟩ := a1
      simp at hc
      subst hc
      rfl
    subst e1
    refine (Tryd.strings_Count_one a0 c w).mono ?_
    rintro e w' ⟨rfl, rfl⟩
    exact ⟨rfl, Below.refl _ _⟩
  · cases h
def strings_IndexByte.f (a0 : ByteArray) (a1 : Int) : Option Int := some (Lib.indexByte a0.data.toList a1.toNat.toUInt8)
theorem strings_IndexByte.calls (a0 : ByteArray) (a1 : Int) (r : Int) (w : World) (h : strings_IndexByte.f a0 a1 = some r) :
    Calls Tryd.prog 51 #[.string a0, .int .u8 a1] w fun e w' => e = .returned (.int .i64 r) ∧ Below w.heap.size w w' := by
  obtain rfl := Option.some.inj h
  refine (Tryd.strings_IndexByte a0 a1 w).mono ?_
  rintro e w' ⟨rfl, rfl⟩
  exact ⟨rfl, Below.refl _ _⟩
def strings_Contains.f (a0 a1 : ByteArray) : Option Bool := match a1.data.toList with
  | [c] => some (decide (0 ≤ Lib.indexByte a0.data.toList c))
  | _ => none
theorem strings_Contains.calls (a0 a1 : ByteArray) (r : Bool) (w : World) (h : strings_Contains.f a0 a1 = some r) :
    Calls Tryd.prog 59 #[.string a0, .string a1] w fun e w' => e = .returned (.bool r) ∧ Below w.heap.size w w' := by
  unfold strings_Contains.f at h
  split at h
  · rename_i c hc
    obtain rfl := Option.some.inj h
    have e1 : a1 = ⟨#[c]⟩ := by
      obtain ⟨⟨l⟩⟩ := a1
      simp at hc
      subst hc
      rfl
    subst e1
    refine (Tryd.strings_Contains_one a0 c w).mono ?_
    rintro e w' ⟨rfl, rfl⟩
    exact ⟨rfl, Below.refl _ _⟩
  · cases h
end Go.Proofs.YtbbkjdcpmhpkjaaDoor.G
