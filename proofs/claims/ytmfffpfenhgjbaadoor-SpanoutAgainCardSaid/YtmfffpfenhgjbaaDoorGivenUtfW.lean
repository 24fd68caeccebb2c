/- utf8.word[[]byte] and utf8.Valid at every row of bytes, walked in this program's translation after the shelf's walks of the string instances. -/
import Derived.Test.YtmfffpfenhgjbaaDoorShelf
import Derived.Test.YtmfffpfenhgjbaaDoorWAll
import Derived.Shelf.Unicode.ValidAny
import Derived.Lib.Endian
import Derived.Lib.EndianBits
set_option linter.unusedVariables false
namespace Go.Proofs.YtmfffpfenhgjbaaDoor.G
open Go.Shelf Go.RowKit Go.Lib Go.Proofs Go.Proofs.YtmfffpfenhgjbaaDoorW.PrintWords

/-- The row's cells hold the bytes of t. -/
def At (w : World) (g o : Nat) (t : ByteArray) : Prop := ∀ j, j < t.size → w.cell? ⟨g, o + j, none⟩ = some (.int .u8 (t.get! j).toNat)
theorem At.below {w w1 : World} {g o : Nat} {t : ByteArray} (h : At w g o t) (hb : Below w.heap.size w w1) : At w1 g o t := fun j hj => by
  have hlt := World.block_lt_of_cell? w _ (h j hj)
  rw [hb.cell (p := ⟨g, o + j, none⟩) hlt]
  exact h j hj

set_option maxHeartbeats 8000000 in
set_option maxRecDepth 100000 in
theorem word (g o n c : Nat) (x0 x1 x2 x3 x4 x5 x6 x7 : UInt8) (w : World) (hn : 8 ≤ n)
    (c0 : w.cell? ⟨g, o, none⟩ = some (.int .u8 x0.toNat)) (c1 : w.cell? ⟨g, o + 1, none⟩ = some (.int .u8 x1.toNat)) (c2 : w.cell? ⟨g, o + 2, none⟩ = some (.int .u8 x2.toNat)) (c3 : w.cell? ⟨g, o + 3, none⟩ = some (.int .u8 x3.toNat)) (c4 : w.cell? ⟨g, o + 4, none⟩ = some (.int .u8 x4.toNat)) (c5 : w.cell? ⟨g, o + 5, none⟩ = some (.int .u8 x5.toNat)) (c6 : w.cell? ⟨g, o + 6, none⟩ = some (.int .u8 x6.toNat)) (c7 : w.cell? ⟨g, o + 7, none⟩ = some (.int .u8 x7.toNat)) :
    Calls Tryd.prog 96 #[.slice (some ⟨g, o, none⟩) n c] w fun e w' => e = .returned (.int .u64 (Lib.leNat [x0, x1, x2, x3, x4, x5, x6, x7])) ∧ ∃ q, w' = w.drewN q := by
  have mixed : Tryd.prog.follows Departure.mixedOrders = true := by kernel_rfl
  have h0 : x0.toNat < 256 := x0.toNat_lt
  have h1 : x1.toNat < 256 := x1.toNat_lt
  have h2 : x2.toNat < 256 := x2.toNat_lt
  have h3 : x3.toNat < 256 := x3.toNat_lt
  have h4 : x4.toNat < 256 := x4.toNat_lt
  have h5 : x5.toNat < 256 := x5.toNat_lt
  have h6 : x6.toNat < 256 := x6.toNat_lt
  have h7 : x7.toNat < 256 := x7.toNat_lt
  have hv : ((Lib.leNat [x0, x1, x2, x3, x4, x5, x6, x7] : Nat) : Int) = (x0.toNat : Int) + (x1.toNat : Int) * 256 + (x2.toNat : Int) * 65536 + (x3.toNat : Int) * 16777216 + (x4.toNat : Int) * 4294967296 + (x5.toNat : Int) * 1099511627776 + (x6.toNat : Int) * 281474976710656 + (x7.toNat : Int) * 72057594037927936 := by
    simp only [Lib.leNat]
    push_cast
    omega
  have q0 : 0 < n := by omega
  have q1 : (1 : Int) < (n : Int) := by omega
  have q2 : (2 : Int) < (n : Int) := by omega
  have q3 : (3 : Int) < (n : Int) := by omega
  have q4 : (4 : Int) < (n : Int) := by omega
  have q5 : (5 : Int) < (n : Int) := by omega
  have q6 : (6 : Int) < (n : Int) := by omega
  have q7 : (7 : Int) < (n : Int) := by omega
  go_enter Tryd.func96, Tryd.ntmps96
  go_wp2
  go_quiet_o (fail)
  go_wp2
  go_ret
  refine ⟨?_, _, rfl⟩
  simp (disch := omega) only [u64_wrap_id, u64_or8, u64_or16, u64_or24, u64_or32, u64_or40, u64_or48, u64_or56]
  rw [hv]
  rfl

theorem get!_ext (t : ByteArray) (m j : Nat) (h : m + j < t.size) : (t.extract m t.size).get! j = t.get! (m + j) := by
  rw [← Lib.getD_get!', ← Lib.getD_get!', Lib.ext_list]
  simp [List.getD, List.getElem?_drop]
theorem infoU8 : ∃ i, Tryd.prog.info? 5 = some i ∧ i.size = 1 := by
  have h : (Tryd.prog.info? 5).map (fun i => (i.zero, i.size, i.bytes)) = some (some (.int .u8 0), 1, 1) := by kernel_rfl
  obtain ⟨i, hi, hz⟩ := Option.map_eq_some_iff.1 h
  simp only [Prod.mk.injEq] at hz
  exact ⟨i, hi, hz.2.1⟩
theorem cutAt (w : World) (g o : Nat) (t : ByteArray) (j : Int) (m : Nat) (hj : j = (m : Int)) (hm : m ≤ t.size) (hA : At w g o t) :
    ∃ (o' : Nat) (t' : ByteArray), t.extract m t.size = t' ∧ t'.size + m = t.size ∧ (∀ W : World, (Instr.slice 54 (.slice (some ⟨g, o, none⟩) t.size t.size) (some (.int .i64 j)) none none).run Tryd.prog W = .ok (.slice (some ⟨g, o', none⟩) t'.size t'.size) W) ∧ At w g o' t' := by
  subst hj
  obtain ⟨i, hi, hsz⟩ := infoU8
  have hz : (t.extract m t.size).size = t.size - m := by rw [Lib.ext_size]
  have hcut := cut_from (P := Tryd.prog) 54 5 .i64 Tryd.underlying54 hi 1 hsz (some ⟨g, o, none⟩) t.size t.size (m : Int) (by omega) (by omega)
  simp only [Int.toNat_natCast] at hcut
  by_cases h : t.size = m
  · refine ⟨o, _, rfl, by omega, fun W => ?_, fun k hk => by omega⟩
    rw [hcut W, if_pos h, hz]
  · refine ⟨o + m, _, rfl, by omega, fun W => ?_, fun k hk => ?_⟩
    · rw [hcut W, if_neg h, hz]
      simp only [Option.map_some, Nat.mul_one, Go.WideShapes.add_plain]
    · rw [get!_ext t m k (by omega), Nat.add_assoc]
      exact hA (m + k) (by omega)
theorem wordAt {w : World} {g o : Nat} {t : ByteArray} (hA : At w g o t) (h8 : 8 ≤ t.size) (c : Nat) (q : Nat) :
    Calls Tryd.prog 96 #[.slice (some ⟨g, o, none⟩) t.size c] (w.drewN q) fun e w' => e = .returned (.int .u64 (Lib.leNat [t.get! 0, t.get! 1, t.get! 2, t.get! 3, t.get! 4, t.get! 5, t.get! 6, t.get! 7])) ∧ ∃ q', w' = (w.drewN q).drewN q' := by
  have hb : At (w.drewN q) g o t := hA.below (below_drewNv (Below.refl _ _) q)
  exact word g o t.size c _ _ _ _ _ _ _ _ (w.drewN q) h8 (hb 0 (by omega)) (hb 1 (by omega)) (hb 2 (by omega)) (hb 3 (by omega)) (hb 4 (by omega)) (hb 5 (by omega)) (hb 6 (by omega)) (hb 7 (by omega))

end Go.Proofs.YtmfffpfenhgjbaaDoor.G
