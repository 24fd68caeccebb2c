/- Words for the laws of this seat, several texts behind one another. -/
import Derived.Test.YticaofendehebaaDoorCards
import Derived.ProofKit
import Derived.Test.YticaofendehebaaDoorWMore
import Derived.SliceStrings
import Derived.ChangeSlices
import Derived.SizedLaws
/-! MainIs -/
namespace Go.Proofs.YticaofendehebaaDoor
set_option maxRecDepth 100000
abbrev c_ (n : Nat) : Char := Char.ofNat n
theorem order_ : Tryd.prog.initOrder = String.ofList [c_ 104, c_ 97, c_ 114, c_ 110, c_ 101, c_ 115, c_ 115, c_ 32, c_ 51, c_ 49, c_ 51, c_ 56, c_ 100, c_ 57, c_ 53, c_ 98, c_ 54, c_ 52, c_ 56, c_ 100, c_ 50, c_ 56, c_ 56, c_ 54, c_ 55, c_ 100, c_ 102, c_ 52, c_ 56, c_ 102, c_ 98, c_ 48, c_ 53, c_ 100, c_ 50, c_ 55, c_ 50, c_ 100, c_ 56, c_ 51, c_ 99, c_ 50, c_ 99, c_ 99, c_ 100, c_ 102, c_ 102, c_ 54, c_ 102, c_ 54, c_ 98, c_ 101, c_ 53, c_ 53, c_ 52, c_ 57, c_ 97, c_ 100, c_ 55, c_ 97, c_ 102, c_ 56, c_ 100, c_ 54, c_ 48, c_ 100, c_ 50, c_ 53, c_ 99, c_ 101, c_ 48, c_ 102, c_ 32, c_ 99, c_ 117, c_ 116, c_ 32, c_ 97, c_ 116, c_ 32, c_ 101, c_ 109, c_ 101, c_ 110, c_ 100, c_ 97, c_ 116, c_ 105, c_ 111, c_ 110, c_ 47, c_ 101, c_ 109, c_ 101, c_ 110, c_ 100, c_ 97, c_ 116, c_ 105, c_ 111, c_ 110, c_ 108, c_ 97, c_ 119, c_ 49, c_ 49, c_ 46, c_ 75, c_ 105, c_ 110, c_ 100, c_ 80, c_ 108, c_ 97, c_ 105, c_ 110, c_ 32, c_ 101, c_ 109, c_ 101, c_ 110, c_ 100, c_ 97, c_ 116, c_ 105, c_ 111, c_ 110, c_ 47, c_ 101, c_ 109, c_ 101, c_ 110, c_ 100, c_ 97, c_ 116, c_ 105, c_ 111, c_ 110, c_ 108, c_ 97, c_ 119, c_ 49, c_ 49, c_ 46, c_ 75, c_ 105, c_ 110, c_ 100, c_ 72, c_ 101, c_ 97, c_ 100, c_ 115, c_ 32, c_ 101, c_ 109, c_ 101, c_ 110, c_ 100, c_ 97, c_ 116, c_ 105, c_ 111, c_ 110, c_ 47, c_ 101, c_ 109, c_ 101, c_ 110, c_ 100, c_ 97, c_ 116, c_ 105, c_ 111, c_ 110, c_ 108, c_ 97, c_ 119, c_ 49, c_ 49, c_ 46, c_ 75, c_ 105, c_ 110, c_ 100, c_ 70, c_ 101, c_ 110, c_ 99, c_ 101, c_ 115, c_ 32, c_ 101, c_ 109, c_ 101, c_ 110, c_ 100, c_ 97, c_ 116, c_ 105, c_ 111, c_ 110, c_ 47, c_ 101, c_ 109, c_ 101, c_ 110, c_ 100, c_ 97, c_ 116, c_ 105, c_ 111, c_ 110, c_ 108, c_ 97, c_ 119, c_ 49, c_ 49, c_ 46, c_ 75, c_ 105, c_ 110, c_ 100, c_ 77, c_ 97, c_ 114, c_ 107, c_ 115, c_ 32, c_ 101, c_ 109, c_ 101, c_ 110, c_ 100, c_ 97, c_ 116, c_ 105, c_ 111, c_ 110, c_ 47, c_ 101, c_ 109, c_ 101, c_ 110, c_ 100, c_ 97, c_ 116, c_ 105, c_ 111, c_ 110, c_ 108, c_ 97, c_ 119, c_ 49, c_ 49, c_ 46, c_ 75, c_ 105, c_ 110, c_ 100, c_ 84, c_ 101, c_ 108, c_ 108, c_ 115] := by kernel_rfl
theorem sum_ : ("3138d95b648d28867df48fb05d272d83c2ccdff6f6be5549ad7af8d60d25ce0f" : String).toList = [c_ 51, c_ 49, c_ 51, c_ 56, c_ 100, c_ 57, c_ 53, c_ 98, c_ 54, c_ 52, c_ 56, c_ 100, c_ 50, c_ 56, c_ 56, c_ 54, c_ 55, c_ 100, c_ 102, c_ 52, c_ 56, c_ 102, c_ 98, c_ 48, c_ 53, c_ 100, c_ 50, c_ 55, c_ 50, c_ 100, c_ 56, c_ 51, c_ 99, c_ 50, c_ 99, c_ 99, c_ 100, c_ 102, c_ 102, c_ 54, c_ 102, c_ 54, c_ 98, c_ 101, c_ 53, c_ 53, c_ 52, c_ 57, c_ 97, c_ 100, c_ 55, c_ 97, c_ 102, c_ 56, c_ 100, c_ 54, c_ 48, c_ 100, c_ 50, c_ 53, c_ 99, c_ 101, c_ 48, c_ 102] := String.toList_ofList
theorem words_ : wordsSigns Tryd.prog.initOrder.toList = [[c_ 104, c_ 97, c_ 114, c_ 110, c_ 101, c_ 115, c_ 115], [c_ 51, c_ 49, c_ 51, c_ 56, c_ 100, c_ 57, c_ 53, c_ 98, c_ 54, c_ 52, c_ 56, c_ 100, c_ 50, c_ 56, c_ 56, c_ 54, c_ 55, c_ 100, c_ 102, c_ 52, c_ 56, c_ 102, c_ 98, c_ 48, c_ 53, c_ 100, c_ 50, c_ 55, c_ 50, c_ 100, c_ 56, c_ 51, c_ 99, c_ 50, c_ 99, c_ 99, c_ 100, c_ 102, c_ 102, c_ 54, c_ 102, c_ 54, c_ 98, c_ 101, c_ 53, c_ 53, c_ 52, c_ 57, c_ 97, c_ 100, c_ 55, c_ 97, c_ 102, c_ 56, c_ 100, c_ 54, c_ 48, c_ 100, c_ 50, c_ 53, c_ 99, c_ 101, c_ 48, c_ 102], [c_ 99, c_ 117, c_ 116], [c_ 97, c_ 116], [c_ 101, c_ 109, c_ 101, c_ 110, c_ 100, c_ 97, c_ 116, c_ 105, c_ 111, c_ 110, c_ 47, c_ 101, c_ 109, c_ 101, c_ 110, c_ 100, c_ 97, c_ 116, c_ 105, c_ 111, c_ 110, c_ 108, c_ 97, c_ 119, c_ 49, c_ 49, c_ 46, c_ 75, c_ 105, c_ 110, c_ 100, c_ 80, c_ 108, c_ 97, c_ 105, c_ 110], [c_ 101, c_ 109, c_ 101, c_ 110, c_ 100, c_ 97, c_ 116, c_ 105, c_ 111, c_ 110, c_ 47, c_ 101, c_ 109, c_ 101, c_ 110, c_ 100, c_ 97, c_ 116, c_ 105, c_ 111, c_ 110, c_ 108, c_ 97, c_ 119, c_ 49, c_ 49, c_ 46, c_ 75, c_ 105, c_ 110, c_ 100, c_ 72, c_ 101, c_ 97, c_ 100, c_ 115], [c_ 101, c_ 109, c_ 101, c_ 110, c_ 100, c_ 97, c_ 116, c_ 105, c_ 111, c_ 110, c_ 47, c_ 101, c_ 109, c_ 101, c_ 110, c_ 100, c_ 97, c_ 116, c_ 105, c_ 111, c_ 110, c_ 108, c_ 97, c_ 119, c_ 49, c_ 49, c_ 46, c_ 75, c_ 105, c_ 110, c_ 100, c_ 70, c_ 101, c_ 110, c_ 99, c_ 101, c_ 115], [c_ 101, c_ 109, c_ 101, c_ 110, c_ 100, c_ 97, c_ 116, c_ 105, c_ 111, c_ 110, c_ 47, c_ 101, c_ 109, c_ 101, c_ 110, c_ 100, c_ 97, c_ 116, c_ 105, c_ 111, c_ 110, c_ 108, c_ 97, c_ 119, c_ 49, c_ 49, c_ 46, c_ 75, c_ 105, c_ 110, c_ 100, c_ 77, c_ 97, c_ 114, c_ 107, c_ 115], [c_ 101, c_ 109, c_ 101, c_ 110, c_ 100, c_ 97, c_ 116, c_ 105, c_ 111, c_ 110, c_ 47, c_ 101, c_ 109, c_ 101, c_ 110, c_ 100, c_ 97, c_ 116, c_ 105, c_ 111, c_ 110, c_ 108, c_ 97, c_ 119, c_ 49, c_ 49, c_ 46, c_ 75, c_ 105, c_ 110, c_ 100, c_ 84, c_ 101, c_ 108, c_ 108, c_ 115]] := by
  rw [order_, String.toList_ofList]
  kernel_rfl
theorem mainIs_ : Tryd.prog.mainIs = some (true, ("3138d95b648d28867df48fb05d272d83c2ccdff6f6be5549ad7af8d60d25ce0f" : String).toList) := by
  rw [sum_]
  unfold Program.mainIs
  rw [words_]
  kernel_rfl
theorem laysLater_ : Tryd.prog.laysLater = false := by kernel_rfl
theorem bearsReflect_ : Tryd.prog.bearsReflect = false := by kernel_rfl
theorem rows_ : Tryd.prog.doorRows = [[41, 111, 111, 116, 32, 115, 101, 108, 105, 102, 32, 116, 115, 101, 116, 32, 44, 49, 49, 32, 107, 111, 111, 108, 40, 32, 100, 114, 111, 119, 115, 114, 97, 118, 116, 117, 99, 32, 119, 111, 114, 32, 115, 39, 116, 115, 101, 102, 105, 110, 97, 109, 32, 101, 104, 116, 32, 101, 101, 115, 32, 59, 101, 110, 111, 108, 97, 32, 115, 114, 101, 115, 105, 108, 97, 105, 116, 105, 110, 105, 32, 115, 100, 108, 111, 104, 32, 115, 114, 97, 118, 46, 116, 117, 99, 46, 109, 101, 115, 111, 103, 32, 58, 114, 111, 111, 100, 32, 115, 39, 114, 97, 118], [41, 49, 49, 32, 107, 111, 111, 108, 40, 32, 116, 111, 111, 114, 32, 115, 39, 121, 114, 111, 116, 105, 115, 111, 112, 101, 114, 32, 101, 104, 116, 32, 115, 97, 32, 100, 101, 109, 97, 110, 32, 114, 101, 108, 108, 97, 99, 32, 101, 104, 116, 32, 116, 97, 104, 116, 32, 114, 101, 100, 108, 111, 102, 32, 101, 104, 116, 32, 114, 101, 118, 111, 32, 116, 110, 101, 119, 32, 115, 114, 97, 118, 46, 116, 117, 99, 46, 109, 101, 115, 111, 103, 32, 102, 111, 32, 107, 111, 111, 108, 32, 101, 104, 116, 32, 58, 114, 111, 111, 100, 32, 115, 39, 114, 97, 118], [41, 49, 49, 32, 107, 111, 111, 108, 40, 32, 97, 116, 97, 100, 32, 110, 105, 97, 108, 112, 32, 44, 114, 101, 115, 105, 108, 97, 105, 116, 105, 110, 105, 32, 110, 119, 111, 32, 115, 116, 105, 32, 121, 98, 32, 100, 105, 97, 108, 32, 115, 105, 32, 115, 101, 103, 110, 97, 82, 116, 112, 101, 99, 99, 97, 46, 56, 102, 116, 117, 47, 101, 100, 111, 99, 105, 110, 117, 32, 58, 114, 111, 111, 100, 32, 115, 39, 114, 97, 118], [41, 49, 32, 100, 101, 110, 110, 105, 112, 40, 32, 101, 110, 111, 108, 97, 32, 116, 120, 101, 116, 32, 115, 116, 105, 32, 121, 98, 32, 100, 105, 97, 108, 32, 115, 105, 32, 116, 115, 114, 105, 102, 46, 56, 102, 116, 117, 47, 101, 100, 111, 99, 105, 110, 117, 32, 58, 114, 111, 111, 100, 32, 115, 39, 114, 97, 118]] := by kernel_rfl
theorem mayEnter_ : Tryd.prog.mayEnter = true := by
  unfold Program.mayEnter Program.doorFits
  rw [words_]
  simp only [laysLater_, bearsReflect_, rows_]
  kernel_rfl
theorem liftsFinal_ : Tryd.prog.liftsFinal = false := by
  unfold Program.liftsFinal Program.headLifts
  rw [words_]
  kernel_rfl
theorem make_ : Tryd.prog.make = some .cut := by
  unfold Program.make
  rw [words_]
  kernel_rfl
end Go.Proofs.YticaofendehebaaDoor
/-! Open -/
namespace Go.Proofs.YticaofendehebaaDoor.G
open Go.ChangeShapes Go.WideShapes Go.RowKit Go.Proofs.YticaofendehebaaDoorW.PrintWords Go.Proofs.YticaofendehebaaDoorW.PrintLast Go.Proofs.YticaofendehebaaDoorW.PrintMore

theorem C_nil_any {α : Type} (d : Kd α) (w : World) (A : Option Addr) : d.C w A 0 [] := ⟨rfl, by omega, fun h => absurd h (by omega)⟩

/-- A slice of strings that came in, as a list. -/
theorem open_strs_C {H : Type} {enc : TypeId × Value → H} {P : Program} {w : World} {base : Nat} {spare : Nat → Bool} {held : Bool} {t e : TypeId} {a : Option Addr} {len cap : Nat} {d : DataW H} {ps : List MemPlace}
    (ht : P.underlying t = some (.slice e)) (he : P.underlying e = some .string) (hc : P.cellsOf e = 1) (h : DataW.Trod enc P w base spare held t (.slice a len cap) d ps) :
    ∃ l : List ByteArray, len = l.length ∧ Kd.C Kd.string w a l.length l ∧ l.length ≤ cap := by
  obtain ⟨fuel, hf⟩ := h
  rcases open_strings ht he hc hf with ⟨hcs, _⟩ | ⟨x, l, c, zs, hcs, _, hl, hm, hz, _, hcell, hwz⟩
  · simp [Value.cells] at hcs
    obtain ⟨rfl, rfl, rfl⟩ := hcs
    exact ⟨[], rfl, C_nil_any _ _ _, Nat.le_refl _⟩
  · simp [Value.cells] at hcs
    obtain ⟨rfl, rfl, rfl⟩ := hcs
    have hlz : len ≤ zs.length := by
      rw [hz]
      split
      · exact hl
      · exact Nat.le_refl _
    have hlen : (zs.take len).length = len := by rw [List.length_take]; omega
    refine ⟨zs.take len, hlen.symm, ?_, by rw [hlen]; exact hl⟩
    rw [hlen]
    refine Kd.C_of_reads (d := ByteArray.empty) (h1 := fun _ => rfl) ⟨hlen, by unfold maxLen at hm; omega, fun _ => ⟨x, rfl, fun j hj => ?_⟩⟩
    rw [hcell j (by omega)]
    simp [List.getD_eq_getElem?_getD, hj]

/-- A slice of whole numbers that came in, as a list, each of its kind. -/
theorem open_ints_C {H : Type} {enc : TypeId × Value → H} {P : Program} {w : World} {base : Nat} {spare : Nat → Bool} {held : Bool} {t e : TypeId} {k : IntKind} {a : Option Addr} {len cap : Nat} {d : DataW H} {ps : List MemPlace}
    (ht : P.underlying t = some (.slice e)) (he : P.underlying e = some (.int k)) (hc : P.cellsOf e = 1) (h : DataW.Trod enc P w base spare held t (.slice a len cap) d ps) :
    ∃ l : List Int, len = l.length ∧ Kd.C (Kd.int k) w a l.length l ∧ l.length ≤ cap ∧ ∀ x ∈ l, (Lit.int k x).wf = true := by
  obtain ⟨fuel, hf⟩ := h
  rcases open_ints ht he hc hf with ⟨hcs, _⟩ | ⟨x, l, c, zs, hcs, _, hl, hm, hz, _, hcell, hwz⟩
  · simp [Value.cells] at hcs
    obtain ⟨rfl, rfl, rfl⟩ := hcs
    exact ⟨[], rfl, C_nil_any _ _ _, Nat.le_refl _, by simp⟩
  · simp [Value.cells] at hcs
    obtain ⟨rfl, rfl, rfl⟩ := hcs
    have hlz : len ≤ zs.length := by
      rw [hz]
      split
      · exact hl
      · exact Nat.le_refl _
    have hlen : (zs.take len).length = len := by rw [List.length_take]; omega
    refine ⟨zs.take len, hlen.symm, ?_, by rw [hlen]; exact hl, fun y hy => hwz y (List.mem_of_mem_take hy)⟩
    rw [hlen]
    refine Kd.C_of_reads (d := (0 : Int)) (h1 := fun _ => rfl) ⟨hlen, by unfold maxLen at hm; omega, fun _ => ⟨x, rfl, fun j hj => ?_⟩⟩
    rw [hcell j (by omega)]
    simp [List.getD_eq_getElem?_getD, hj]
end Go.Proofs.YticaofendehebaaDoor.G
