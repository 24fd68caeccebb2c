/- Given contracts for the printed functions of chapter 01: bytes.IndexByte, utf8.Valid, utf8.DecodeRuneInString, strings.Trim; the tables of unicode/utf8 as a hypothesis handed through. -/
import Derived.Test.YtmfffpfenhgjbaaDoorShelf
import Derived.Test.YtmfffpfenhgjbaaDoorGivenUtfV
import Derived.Test.YtmfffpfenhgjbaaDoorGivenTabs
import Derived.Shelf.Strings.SlTrimAscii
import Derived.Lib.BytesEntry
import Derived.Lib.LaidU8
import Derived.PinnedBridge
set_option linter.unusedVariables false
namespace Go.Proofs.YtmfffpfenhgjbaaDoor.G
open Go.Shelf Go.RowKit Go.Lib Go.Proofs Go.Proofs.YtmfffpfenhgjbaaDoorW.PrintWords Go.Proofs.YtmfffpfenhgjbaaDoorW.PrintLast Go.Proofs.YtmfffpfenhgjbaaDoorW.PrintMore

def bytesR (l : List Int) : ByteArray := ⟨(Lib.bytesOf l).toArray⟩
theorem bytesR_size (l : List Int) : (bytesR l).size = l.length := by simp [bytesR, Lib.bytesOf, ByteArray.size]
theorem bytesR_list (l : List Int) : (bytesR l).data.toList = Lib.bytesOf l := by simp [bytesR]
def isByte (x : Int) : Bool := decide (0 ≤ x) && decide (x < 256)
theorem bytesR_get (l : List Int) (h : l.all isByte = true) (j : Nat) (hj : j < l.length) : (((bytesR l).get! j).toNat : Int) = l.getD j 0 := by
  have h1 : isByte l[j] = true := List.all_eq_true.1 h _ (List.getElem_mem hj)
  simp only [isByte, Bool.and_eq_true, decide_eq_true_eq] at h1
  rw [← Lib.getD_get!', bytesR_list]
  have h2 : (Lib.bytesOf l).getD j 0 = UInt8.ofNat l[j].toNat := by
    unfold Lib.bytesOf
    simp [List.getD, hj]
  rw [h2, show l.getD j 0 = l[j] from by simp [List.getD, hj]]
  simp
  omega
theorem cells_of {A : Option Addr} {l : List Int} {w : World} (hr : Kd.C (Kd.int .u8) w A l.length l) (h0 : 0 < l.length) :
    ∃ g o, A = some ⟨g, o, none⟩ ∧ ∀ i, i < l.length → w.cell? ⟨g, o + i, none⟩ = some (.int .u8 (l.getD i 0)) := by
  obtain ⟨_, _, h⟩ := Kd.reads_of_C (enc := Value.int .u8) (d := (0 : Int)) (h1 := fun _ => rfl) hr
  obtain ⟨⟨g, o, spot⟩, rfl, hc⟩ := h h0
  have hspot : spot = none := by simpa [Addr.add] using World.cell?_spot (hc 0 h0)
  subst hspot
  exact ⟨g, o, rfl, fun i hi => by rw [← Go.WideShapes.add_plain]; exact hc i hi⟩

theorem run_indexByteZero {P : Program} (w : World) (A : Option Addr) (c : Nat) (cv : Int) :
    (Extern.BytealgIndexByte.indexByte #[.slice A 0 c, .int .u8 cv]).run P w = .ok (.int .i64 (-1)) w := by
  have hs := Lib.run_indexByteString (P := P) .empty cv w
  cases A <;> exact hs
set_option maxHeartbeats 1000000 in
set_option maxRecDepth 100000 in
theorem indexByte_zero (A : Option Addr) (c : Nat) (cv : Int) (w : World) :
    Calls Tryd.prog 71 #[.slice A 0 c, .int .u8 cv] w fun e w' => e = .returned (.int .i64 (-1)) ∧ w' = w := by
  go_enter Tryd.func71, Tryd.ntmps71
  go_wp2
  rw [run_callFunc_extern Tryd.func95 (by kernel_rfl) (by kernel_rfl) (by kernel_rfl) (e := Extern.BytealgIndexByte.indexByte) (by kernel_rfl), run_indexByteZero w A c cv]
  simp only [Result.andThen]
  rw [Oper.upon_value]
  go_wp2
  go_ret
  exact ⟨rfl, rfl⟩
def bytes_IndexByte.f (l0 : List Int) (a1 : Int) : Option Int := if l0.length = 0 then some (-1) else some (Lib.indexByte (Lib.bytesOf l0) a1.toNat.toUInt8)
theorem bytes_IndexByte.calls (A0 : Option Addr) (c0 : Nat) (l0 : List Int) (a1 : Int) (r : Int) (w : World) (hr0 : Kd.C (Kd.int .u8) w A0 l0.length l0) (hc0 : l0.length ≤ c0) (h : bytes_IndexByte.f l0 a1 = some r) :
    Calls Tryd.prog 71 #[.slice A0 l0.length c0, .int .u8 a1] w fun e w' => e = .returned (.int .i64 r) ∧ w' = w := by
  unfold bytes_IndexByte.f at h
  split at h
  · rename_i h0
    obtain rfl := Option.some.inj h
    rw [h0]
    exact indexByte_zero A0 c0 a1 w
  · rename_i h0
    obtain rfl := Option.some.inj h
    obtain ⟨g, o, rfl, hc⟩ := cells_of hr0 (by omega)
    exact Tryd.bytes_IndexByte g o l0.length c0 l0 a1 w rfl hc

set_option maxHeartbeats 1000000 in
set_option maxRecDepth 100000 in
theorem valid_zero (A : Option Addr) (c : Nat) (w : World) :
    Calls Tryd.prog 72 #[.slice A 0 c] w fun e w' => e = .returned (.bool true) ∧ w' = w := by
  have mixed : Tryd.prog.follows Departure.mixedOrders = true := by kernel_rfl
  have hcut : ∀ W : World, (Instr.slice 54 (.slice A 0 c) none (some (.int .i64 0)) (some (.int .i64 0))).run Tryd.prog W = .ok (.slice A 0 0) W := by
    intro W
    obtain ⟨i, hi, hsz⟩ := infoU8
    have hel : Tryd.prog.elem 54 = 5 := by simp [Program.elem, Tryd.underlying54]
    have hu : Tryd.prog.underlying 54 = some (.slice (Tryd.prog.elem 54)) := by rw [hel]; exact Tryd.underlying54
    rw [run_slice_hm W 54 A 0 c hu .i64 .i64 0 0 (by omega) (by omega) (by omega), hel]
    cases A <;> simp [sizeOf, typeInfo, hi, sliced, Result.andThen]
  go_enter Tryd.func72, Tryd.ntmps72
  go_wp2
  go_loopg [0] 1 (fun gk s0 wx => s0 = .slice A 0 0 ∧ wx = w)
  case atStart => exact ⟨rfl, rfl⟩
  case round =>
    obtain ⟨rfl, rfl⟩ := hrel
    go_wp2
    go_ret
    exact ⟨rfl, rfl⟩
def utf8_Valid.f (l0 : List Int) : Option Bool := if l0.length ≤ 9223372036854775807 ∧ l0.all isByte = true then some (Lib.validD (Lib.bytesOf l0)) else none
theorem utf8_Valid.calls (A0 : Option Addr) (c0 : Nat) (l0 : List Int) (r : Bool) (w : World) (hT : Tabs w) (hr0 : Kd.C (Kd.int .u8) w A0 l0.length l0) (hc0 : l0.length ≤ c0) (h : utf8_Valid.f l0 = some r) :
    Calls Tryd.prog 72 #[.slice A0 l0.length c0] w fun e w' => e = .returned (.bool r) ∧ Below w.heap.size w w' := by
  unfold utf8_Valid.f at h
  split at h
  · rename_i hh
    obtain ⟨hl, hb⟩ := hh
    obtain rfl := Option.some.inj h
    rcases Nat.eq_zero_or_pos l0.length with h0 | h0
    · obtain rfl := List.eq_nil_of_length_eq_zero h0
      refine (valid_zero A0 c0 w).mono ?_
      rintro e w' ⟨rfl, rfl⟩
      exact ⟨rfl, Below.refl _ _⟩
    · obtain ⟨g, o, rfl, hc⟩ := cells_of hr0 h0
      have hA : At w g o (bytesR l0) := fun j hj => by
        rw [bytesR_size] at hj
        rw [hc j hj, bytesR_get l0 hb j hj]
      have := valid g o c0 (bytesR l0) w (by rw [bytesR_size]; exact hl) (by rw [bytesR_size]; exact hc0) hT.utf hA
      rw [bytesR_size, bytesR_list] at this
      exact this
  · cases h

def utf8_DecodeRuneInString.f (a0 : ByteArray) : Option (Int × Int) := some (((Lib.decodeGo a0).1 : Int), ((Lib.decodeGo a0).2 : Int))
theorem utf8_DecodeRuneInString.calls (a0 : ByteArray) (r1 r2 : Int) (w : World) (hT : Tabs w) (h : utf8_DecodeRuneInString.f a0 = some (r1, r2)) :
    Calls Tryd.prog 123 #[.string a0] w fun e w' => e = .returned (.tuple #[.int .i32 r1, .int .i64 r2]) ∧ Below w.heap.size w w' := by
  unfold utf8_DecodeRuneInString.f at h
  obtain ⟨rfl, rfl⟩ := Prod.mk.inj (Option.some.inj h)
  exact Tryd.utf8_DecodeRuneInString a0 w hT.utf

def asciiB (s : ByteArray) : Bool := s.data.toList.all (fun b => decide (b.toNat < 128))
def strings_Trim.f (a0 a1 : ByteArray) : Option ByteArray :=
  if a0.size ≤ 9223372036854775807 ∧ a1.size < 4294967281 ∧ asciiB a1 = true then some ⟨(Lib.trimS a0.data.toList a1.data.toList).toArray⟩ else none
theorem strings_Trim.calls (a0 a1 : ByteArray) (r : ByteArray) (w : World) (h : strings_Trim.f a0 a1 = some r) :
    Calls Tryd.prog 75 #[.string a0, .string a1] w fun e w' => e = .returned (.string r) ∧ Below w.heap.size w w' := by
  unfold strings_Trim.f at h
  split at h
  · rename_i c
    obtain ⟨hs, hcs, hac⟩ := c
    obtain rfl := Option.some.inj h
    exact Any.strings_Trim_laid Tryd.lays160 (by kernel_rfl) a0 a1 w hs hcs (ascii_of_all hac)
  · cases h
end Go.Proofs.YtmfffpfenhgjbaaDoor.G
