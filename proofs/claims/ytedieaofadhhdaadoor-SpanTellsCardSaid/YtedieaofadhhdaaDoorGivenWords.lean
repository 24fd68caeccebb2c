/- Words of the given contracts: a cell that stood ahead of a block isn't in it. -/
import Derived.Test.YtedieaofadhhdaaDoorWMore
namespace Go.Proofs.YtedieaofadhhdaaDoor.G
open Go.RowKit Go.Proofs.YtedieaofadhhdaaDoorW.PrintWords Go.Proofs.YtedieaofadhhdaaDoorW.PrintLast Go.Proofs.YtedieaofadhhdaaDoorW.PrintMore
theorem ne_c {w : World} {a : Addr} {v : Value} {g : Nat} (h : w.cell? a = some v) (hg : w.heap.size ≤ g) : a.block ≠ g := Nat.ne_of_lt (Nat.lt_of_lt_of_le (World.block_lt_of_cell? w _ h) hg)
theorem cf_ {w W : World} {a : Addr} {v u : Value} {g o : Nat} (h : w.cell? a = some v) (G : Aside0 (w.heap.size ≤ g)) : (W.setCell ⟨g, o, none⟩ u).cell? a = W.cell? a := cell_far (p := ⟨g, o, none⟩) (ne_c h G.out) u
theorem kc_ {w w' : World} {a : Addr} {v : Value} (HB : Aside0 (Below w.heap.size w w')) (h : w.cell? a = some v) : w'.cell? a = some v := (HB.out.cell (World.block_lt_of_cell? w _ h)).trans h
end Go.Proofs.YtedieaofadhhdaaDoor.G
