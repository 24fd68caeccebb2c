/- Words of the printed and the given contracts: a cell that stood ahead of a block isn't in it. -/
import Derived.Test.YtbbkjdcpmhpkjaaDoorWMore
namespace Go.Proofs.YtbbkjdcpmhpkjaaDoor.G
open Go.RowKit Go.Proofs.YtbbkjdcpmhpkjaaDoorW.PrintWords Go.Proofs.YtbbkjdcpmhpkjaaDoorW.PrintLast Go.Proofs.YtbbkjdcpmhpkjaaDoorW.PrintMore
theorem ne_c {w : World} {a : Addr} {v : Value} {g : Nat} (h : w.cell? a = some v) (hg : w.heap.size ≤ g) : a.block ≠ g := Nat.ne_of_lt (Nat.lt_of_lt_of_le (World.block_lt_of_cell? w _ h) hg)
theorem kc_ {w w' : World} {a : Addr} {v : Value} (HB : Aside0 (Below w.heap.size w w')) (h : w.cell? a = some v) : w'.cell? a = some v := (HB.out.cell (World.block_lt_of_cell? w _ h)).trans h
section
variable {w W : World} {a : Addr} {v u u2 u3 u4 u5 u6 : Value} {g o o2 o3 o4 o5 o6 : Nat}
theorem cf_ (h : w.cell? a = some v) (G : Aside0 (w.heap.size ≤ g)) : (W.setCell ⟨g, o, none⟩ u).cell? a = W.cell? a := cell_far (p := ⟨g, o, none⟩) (ne_c h G.out) u
theorem cf1_ (h : w.cell? a = some v) (G : Aside0 (w.heap.size ≤ g)) : (W.setCell ⟨g, o, none⟩ u).cell? a = W.cell? a := cf_ h G
theorem cf2_ (h : w.cell? a = some v) (G : Aside0 (w.heap.size ≤ g)) : ((W.setCell ⟨g, o2, none⟩ u2).setCell ⟨g, o, none⟩ u).cell? a = W.cell? a := (cf_ h G).trans (cf_ h G)
theorem cf3_ (h : w.cell? a = some v) (G : Aside0 (w.heap.size ≤ g)) : (((W.setCell ⟨g, o3, none⟩ u3).setCell ⟨g, o2, none⟩ u2).setCell ⟨g, o, none⟩ u).cell? a = W.cell? a := (cf_ h G).trans (cf2_ h G)
theorem cf4_ (h : w.cell? a = some v) (G : Aside0 (w.heap.size ≤ g)) : ((((W.setCell ⟨g, o4, none⟩ u4).setCell ⟨g, o3, none⟩ u3).setCell ⟨g, o2, none⟩ u2).setCell ⟨g, o, none⟩ u).cell? a = W.cell? a := (cf_ h G).trans (cf3_ h G)
theorem cf5_ (h : w.cell? a = some v) (G : Aside0 (w.heap.size ≤ g)) : (((((W.setCell ⟨g, o5, none⟩ u5).setCell ⟨g, o4, none⟩ u4).setCell ⟨g, o3, none⟩ u3).setCell ⟨g, o2, none⟩ u2).setCell ⟨g, o, none⟩ u).cell? a = W.cell? a := (cf_ h G).trans (cf4_ h G)
theorem cf6_ (h : w.cell? a = some v) (G : Aside0 (w.heap.size ≤ g)) : ((((((W.setCell ⟨g, o6, none⟩ u6).setCell ⟨g, o5, none⟩ u5).setCell ⟨g, o4, none⟩ u4).setCell ⟨g, o3, none⟩ u3).setCell ⟨g, o2, none⟩ u2).setCell ⟨g, o, none⟩ u).cell? a = W.cell? a := (cf_ h G).trans (cf5_ h G)
end
end Go.Proofs.YtbbkjdcpmhpkjaaDoor.G
