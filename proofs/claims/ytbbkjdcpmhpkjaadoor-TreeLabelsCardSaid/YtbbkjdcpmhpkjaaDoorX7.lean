/- TreeLabels: a walk by hand, and what it answers. -/
import Derived.Test.YtbbkjdcpmhpkjaaDoorX4
import Derived.Test.YtbbkjdcpmhpkjaaDoorPLabels
import Derived.Deep.QuietTactic
import Derived.BigQuiet
import Derived.BigCall
import Derived.Outline
set_option linter.unusedVariables false
set_option linter.unusedSimpArgs false
namespace Go.Proofs.YtbbkjdcpmhpkjaaDoor.G
open Go.RowKit Go.Lib Go.Proofs Go.Proofs.YtbbkjdcpmhpkjaaDoor.X Go.Proofs.YtbbkjdcpmhpkjaaDoor.Pure Go.Proofs.YtbbkjdcpmhpkjaaDoorW.PrintWords Go.Proofs.YtbbkjdcpmhpkjaaDoorW.PrintLast Go.Proofs.YtbbkjdcpmhpkjaaDoorW.PrintMore
theorem box_at {w : World} {g : Nat} {a b c d e f : Value} {t : TypeId} (h : w.heap[g]? = some (.cells #[a, b, c, d, e, f] t (0, 0))) (o : Obj) : (w.alloc o).cell? ⟨g, 0, none⟩ = some a ∧ (w.alloc o).cell? ⟨g, 1, none⟩ = some b ∧ (w.alloc o).cell? ⟨g, 2, none⟩ = some c ∧ (w.alloc o).cell? ⟨g, 3, none⟩ = some d ∧ (w.alloc o).cell? ⟨g, 4, none⟩ = some e ∧ (w.alloc o).cell? ⟨g, 5, none⟩ = some f := box_cells (blk_alloc h o)
theorem blk_newAt {w : World} {g : Nat} (o : Obj) (h : w.heap.size = g) : (w.alloc o).heap[g]? = some o := h ▸ blk_new w o
theorem nil_C {α : Type} (d : Kd α) (w : World) (A : Option Addr) : d.C w A 0 [] := ⟨rfl, by omega, fun h => absurd h (by omega)⟩
theorem one_str {W : World} {g : Nat} {x : ByteArray} {t : TypeId} (h : W.heap[g]? = some (.cells #[.string x] t (0, 0))) : Kd.C Kd.string W (some ⟨g, 0, none⟩) [x].length [x] := by
  refine Kd.C_of_reads (d := ByteArray.empty) (h1 := fun _ => rfl) ⟨rfl, by simp, fun _ => ⟨_, rfl, fun j hj => ?_⟩⟩
  obtain rfl : j = 0 := by simpa using hj
  exact blk_cell h 0
theorem two_str {W : World} {g : Nat} {x y : ByteArray} {t : TypeId} (h : W.heap[g]? = some (.cells #[.string x, .string y] t (0, 0))) : Kd.C Kd.string W (some ⟨g, 0, none⟩) [x, y].length [x, y] := by
  refine Kd.C_of_reads (d := ByteArray.empty) (h1 := fun _ => rfl) ⟨rfl, by simp, fun _ => ⟨_, rfl, fun j hj => ?_⟩⟩
  have : j = 0 ∨ j = 1 := by simp at hj; omega
  rcases this with rfl | rfl
  · exact blk_cell h 0
  · exact blk_cell h 1
theorem one_span {W : World} {g : Nat} {k : Int} {s : ByteArray} {A2 : Option Addr} {c2 : Nat} {l2 : List S33} {t : TypeId} (h : W.heap[g]? = some (.cells #[.int .i64 k, .string s, .slice A2 l2.length c2] t (0, 0))) (h2 : Kd.C k33 W A2 l2.length l2) (n2 : l2.length ≤ c2) : Kd.C k33 W (some ⟨g, 0, none⟩) 1 [(⟨k, s, l2⟩ : S33)] := by
  refine ⟨rfl, by decide, fun _ => ⟨_, rfl, fun j p hj => ?_⟩⟩
  obtain ⟨hj1, rfl⟩ := List.getElem?_eq_some_iff.1 hj
  obtain rfl : j = 0 := by simpa using hj1
  refine ⟨_, rfl, k33_mk W ⟨k, s, l2⟩ n2 h2, fun q u hu => ?_⟩
  have := blk_cell h q
  rw [← Array.getElem?_toList, hu] at this
  have e : (⟨g, 0, none⟩ : Addr).add (0 * k33.sz + q) = ⟨g, q, none⟩ := by simp [Addr.add]; omega
  rw [e]
  exact this
theorem one_blk {W : World} {g : Nat} {k lv : Int} {s : ByteArray} {A3 A4 A5 : Option Addr} {c3 c4 c5 : Nat} {l3 : List ByteArray} {l4 : List S33} {l5 : List S28} {t : TypeId}
    (h : W.heap[g]? = some (.cells #[.int .i64 k, .int .i64 lv, .string s, .slice A3 l3.length c3, .slice A4 l4.length c4, .slice A5 l5.length c5] t (0, 0))) (h3 : Kd.C Kd.string W A3 l3.length l3) (n3 : l3.length ≤ c3) (h4 : Kd.C k33 W A4 l4.length l4) (n4 : l4.length ≤ c4) (h5 : Kd.C k28 W A5 l5.length l5) (n5 : l5.length ≤ c5) :
    Kd.C k28 W (some ⟨g, 0, none⟩) [(⟨k, lv, s, l3, l4, l5⟩ : S28)].length [(⟨k, lv, s, l3, l4, l5⟩ : S28)] := by
  refine ⟨rfl, by simp, fun _ => ⟨_, rfl, fun j p hj => ?_⟩⟩
  obtain ⟨hj1, rfl⟩ := List.getElem?_eq_some_iff.1 hj
  obtain rfl : j = 0 := by simpa using hj1
  refine ⟨_, rfl, k28_mk W ⟨k, lv, s, l3, l4, l5⟩ n3 h3 n4 h4 n5 h5, fun q u hu => ?_⟩
  have := blk_cell h q
  rw [← Array.getElem?_toList, hu] at this
  have e : (⟨g, 0, none⟩ : Addr).add (0 * k28.sz + q) = ⟨g, q, none⟩ := by simp [Addr.add]; omega
  rw [e]
  exact this
def RightOk (w : World) (l : List BK) (r : Bool) : Prop := ∀ (W : World) (A : Option Addr), Below w.heap.size w W → Kd.C k28 W A l.length l → Calls Tryd.prog 9 #[.slice A l.length 1] W fun e w' => e = .returned (.bool r) ∧ Below W.heap.size W w'
set_option maxHeartbeats 8000000 in
set_option maxRecDepth 1000000 in
theorem lab_p (a b : ByteArray) (lv : Int) (w : World) (hT : Tabs w) (cW : ∀ W, Tabs W → Calls Tryd.prog 7 #[] W fun e w' => e = .returned (.bool true) ∧ Below W.heap.size W w') (h : a.size + b.size ≤ 2000)
    (r1 : RightOk w [⟨8, 0, a, [b], [], []⟩] false) (cL : Says w 12 #[.string a] (.bool false)) (rX : RightOk w [⟨8, lv, a, [b], [], []⟩] false) (rY : RightOk w [⟨8, 0, a, [b, b], [], []⟩] false) (rZ : RightOk w [⟨8, 0, a, [b], [], [⟨3, 0, ⟨#[]⟩, [], [], []⟩]⟩] false) :
    Calls Tryd.prog 6 #[.string a, .string b, .int .i64 lv] w fun e w' => e = .returned (.bool true) ∧ Below w.heap.size w w' := by
  have hg : decide ((a.size : Int) + (b.size : Int) > 2000) = false := decide_eq_false (by omega)
  go_enter Tryd.func6, Tryd.ntmps6
  go_wp2_with (go_at_call 7; refine (cW _ hT).mono ?_; rintro e w1 ⟨rfl, hb1⟩)
  have bb0 := Below.alloc hb1 (Below.size hb1) (.cells #[.string b] 9)
  have bb1 := Below.alloc bb0 (Below.size bb0) (.cells #[.int .i64 8, .int .i64 0, .string a, .slice (some ⟨w1.heap.size, 0, none⟩) 1 1, .slice none 0 0, .slice none 0 0] 28)
  have bb2 := Below.alloc bb1 (Below.size bb1) (.cells #[.int .i64 8, .int .i64 0, .string a, .slice (some ⟨w1.heap.size, 0, none⟩) 1 1, .slice none 0 0, .slice none 0 0] 28)
  have kS := (blk_alloc (blk_alloc (blk_new w1 (.cells #[.string b] 9)) (.cells #[.int .i64 8, .int .i64 0, .string a, .slice (some ⟨w1.heap.size, 0, none⟩) 1 1, .slice none 0 0, .slice none 0 0] 28)) (.cells #[.int .i64 8, .int .i64 0, .string a, .slice (some ⟨w1.heap.size, 0, none⟩) 1 1, .slice none 0 0, .slice none 0 0] 28))
  have kD := blk_alloc (blk_newAt (.cells #[.int .i64 8, .int .i64 0, .string a, .slice (some ⟨w1.heap.size, 0, none⟩) 1 1, .slice none 0 0, .slice none 0 0] 28) (tree_alloc w1 (.cells #[.string b] 9))) (.cells #[.int .i64 8, .int .i64 0, .string a, .slice (some ⟨w1.heap.size, 0, none⟩) 1 1, .slice none 0 0, .slice none 0 0] 28)
  have c1 := r1 (((w1.alloc (.cells #[.string b] 9)).alloc (.cells #[.int .i64 8, .int .i64 0, .string a, .slice (some ⟨w1.heap.size, 0, none⟩) 1 1, .slice none 0 0, .slice none 0 0] 28)).alloc (.cells #[.int .i64 8, .int .i64 0, .string a, .slice (some ⟨w1.heap.size, 0, none⟩) 1 1, .slice none 0 0, .slice none 0 0] 28)) (some ⟨w1.heap.size + 1 + 1, 0, none⟩) bb2 (one_blk (c3 := 1) (c4 := 0) (c5 := 0) (l3 := [b]) (l4 := []) (l5 := []) (blk_newAt (.cells #[.int .i64 8, .int .i64 0, .string a, .slice (some ⟨w1.heap.size, 0, none⟩) 1 1, .slice none 0 0, .slice none 0 0] 28) (by simp only [tree_alloc])) (one_str kS) (Nat.le_refl _) (nil_C _ _ _) (Nat.le_refl _) (nil_C _ _ _) (Nat.le_refl _))
  refine c1.mono ?_
  rintro e w2 ⟨rfl, hb3⟩
  have jS := blk_below kS hb3
  have jD := blk_below kD hb3
  have hb4 := bb2.trans (Below.mono hb3 bb2.size)
  clear c1 kS kD hb3 bb0 bb1 bb2
  go_wp2_with (go_at_call 12; refine (cL _ hb4).mono ?_; rintro e wq ⟨rfl, hb5⟩; have lS := blk_below jS hb5; have lD := blk_below jD hb5; have hbq := hb4.trans (Below.mono hb5 hb4.size); obtain ⟨z0, z1, z2, z3, z4, z5⟩ := box_cells lD; have lX := blk_alloc lD (.cells #[.int .i64 8, .int .i64 lv, .string a, .slice (some ⟨w1.heap.size, 0, none⟩) 1 1, .slice none 0 0, .slice none 0 0] 28); obtain ⟨y0, y1, y2, y3, y4, y5⟩ := box_cells lX; have lY := blk_alloc (blk_alloc lX (.cells #[.int .i64 8, .int .i64 0, .string a, .slice (some ⟨wq.heap.size + 1 + 1, 0, none⟩) 2 2, .slice none 0 0, .slice none 0 0] 28)) (.cells #[.string b, .string b] 9); obtain ⟨x0, x1, x2, x3, x4, x5⟩ := box_cells lY; clear jS jD hb5)
  have fS := (blk_alloc (blk_alloc (blk_alloc (blk_alloc (blk_alloc (blk_alloc lS (.cells #[.int .i64 8, .int .i64 lv, .string a, .slice (some ⟨w1.heap.size, 0, none⟩) 1 1, .slice none 0 0, .slice none 0 0] 28)) (.cells #[.int .i64 8, .int .i64 0, .string a, .slice (some ⟨wq.heap.size + 1 + 1, 0, none⟩) 2 2, .slice none 0 0, .slice none 0 0] 28)) (.cells #[.string b, .string b] 9)) (.cells #[.int .i64 8, .int .i64 0, .string a, .slice (some ⟨w1.heap.size, 0, none⟩) 1 1, .slice none 0 0, .slice (some ⟨wq.heap.size + 1 + 1 + 1 + 1, 0, none⟩) 1 1] 28)) (.cells #[.int .i64 3, .int .i64 0, .string ⟨#[]⟩, .slice none 0 0, .slice none 0 0, .slice none 0 0] 28)) (.cells #[.int .i64 8, .int .i64 lv, .string a, .slice (some ⟨w1.heap.size, 0, none⟩) 1 1, .slice none 0 0, .slice none 0 0] 28))
  have fY := (blk_alloc (blk_alloc (blk_alloc (blk_alloc (blk_newAt (g := wq.heap.size + 1) (.cells #[.int .i64 8, .int .i64 0, .string a, .slice (some ⟨wq.heap.size + 1 + 1, 0, none⟩) 2 2, .slice none 0 0, .slice none 0 0] 28) (tree_alloc wq (.cells #[.int .i64 8, .int .i64 lv, .string a, .slice (some ⟨w1.heap.size, 0, none⟩) 1 1, .slice none 0 0, .slice none 0 0] 28))) (.cells #[.string b, .string b] 9)) (.cells #[.int .i64 8, .int .i64 0, .string a, .slice (some ⟨w1.heap.size, 0, none⟩) 1 1, .slice none 0 0, .slice (some ⟨wq.heap.size + 1 + 1 + 1 + 1, 0, none⟩) 1 1] 28)) (.cells #[.int .i64 3, .int .i64 0, .string ⟨#[]⟩, .slice none 0 0, .slice none 0 0, .slice none 0 0] 28)) (.cells #[.int .i64 8, .int .i64 lv, .string a, .slice (some ⟨w1.heap.size, 0, none⟩) 1 1, .slice none 0 0, .slice none 0 0] 28))
  have fS2 := (blk_alloc (blk_alloc (blk_alloc (blk_newAt (w := ((wq.alloc (.cells #[.int .i64 8, .int .i64 lv, .string a, .slice (some ⟨w1.heap.size, 0, none⟩) 1 1, .slice none 0 0, .slice none 0 0] 28)).alloc (.cells #[.int .i64 8, .int .i64 0, .string a, .slice (some ⟨wq.heap.size + 1 + 1, 0, none⟩) 2 2, .slice none 0 0, .slice none 0 0] 28))) (g := wq.heap.size + 1 + 1) (.cells #[.string b, .string b] 9) (by simp only [tree_alloc])) (.cells #[.int .i64 8, .int .i64 0, .string a, .slice (some ⟨w1.heap.size, 0, none⟩) 1 1, .slice none 0 0, .slice (some ⟨wq.heap.size + 1 + 1 + 1 + 1, 0, none⟩) 1 1] 28)) (.cells #[.int .i64 3, .int .i64 0, .string ⟨#[]⟩, .slice none 0 0, .slice none 0 0, .slice none 0 0] 28)) (.cells #[.int .i64 8, .int .i64 lv, .string a, .slice (some ⟨w1.heap.size, 0, none⟩) 1 1, .slice none 0 0, .slice none 0 0] 28))
  have fZ := (blk_alloc (blk_alloc (blk_newAt (w := (((wq.alloc (.cells #[.int .i64 8, .int .i64 lv, .string a, .slice (some ⟨w1.heap.size, 0, none⟩) 1 1, .slice none 0 0, .slice none 0 0] 28)).alloc (.cells #[.int .i64 8, .int .i64 0, .string a, .slice (some ⟨wq.heap.size + 1 + 1, 0, none⟩) 2 2, .slice none 0 0, .slice none 0 0] 28)).alloc (.cells #[.string b, .string b] 9))) (g := wq.heap.size + 1 + 1 + 1) (.cells #[.int .i64 8, .int .i64 0, .string a, .slice (some ⟨w1.heap.size, 0, none⟩) 1 1, .slice none 0 0, .slice (some ⟨wq.heap.size + 1 + 1 + 1 + 1, 0, none⟩) 1 1] 28) (by simp only [tree_alloc])) (.cells #[.int .i64 3, .int .i64 0, .string ⟨#[]⟩, .slice none 0 0, .slice none 0 0, .slice none 0 0] 28)) (.cells #[.int .i64 8, .int .i64 lv, .string a, .slice (some ⟨w1.heap.size, 0, none⟩) 1 1, .slice none 0 0, .slice none 0 0] 28))
  have fK := (blk_alloc (blk_newAt (w := ((((wq.alloc (.cells #[.int .i64 8, .int .i64 lv, .string a, .slice (some ⟨w1.heap.size, 0, none⟩) 1 1, .slice none 0 0, .slice none 0 0] 28)).alloc (.cells #[.int .i64 8, .int .i64 0, .string a, .slice (some ⟨wq.heap.size + 1 + 1, 0, none⟩) 2 2, .slice none 0 0, .slice none 0 0] 28)).alloc (.cells #[.string b, .string b] 9)).alloc (.cells #[.int .i64 8, .int .i64 0, .string a, .slice (some ⟨w1.heap.size, 0, none⟩) 1 1, .slice none 0 0, .slice (some ⟨wq.heap.size + 1 + 1 + 1 + 1, 0, none⟩) 1 1] 28))) (g := wq.heap.size + 1 + 1 + 1 + 1) (.cells #[.int .i64 3, .int .i64 0, .string ⟨#[]⟩, .slice none 0 0, .slice none 0 0, .slice none 0 0] 28) (by simp only [tree_alloc])) (.cells #[.int .i64 8, .int .i64 lv, .string a, .slice (some ⟨w1.heap.size, 0, none⟩) 1 1, .slice none 0 0, .slice none 0 0] 28))
  have f6 := blk_newAt (w := (((((wq.alloc (.cells #[.int .i64 8, .int .i64 lv, .string a, .slice (some ⟨w1.heap.size, 0, none⟩) 1 1, .slice none 0 0, .slice none 0 0] 28)).alloc (.cells #[.int .i64 8, .int .i64 0, .string a, .slice (some ⟨wq.heap.size + 1 + 1, 0, none⟩) 2 2, .slice none 0 0, .slice none 0 0] 28)).alloc (.cells #[.string b, .string b] 9)).alloc (.cells #[.int .i64 8, .int .i64 0, .string a, .slice (some ⟨w1.heap.size, 0, none⟩) 1 1, .slice none 0 0, .slice (some ⟨wq.heap.size + 1 + 1 + 1 + 1, 0, none⟩) 1 1] 28)).alloc (.cells #[.int .i64 3, .int .i64 0, .string ⟨#[]⟩, .slice none 0 0, .slice none 0 0, .slice none 0 0] 28))) (g := wq.heap.size + 1 + 1 + 1 + 1 + 1) (.cells #[.int .i64 8, .int .i64 lv, .string a, .slice (some ⟨w1.heap.size, 0, none⟩) 1 1, .slice none 0 0, .slice none 0 0] 28) (by simp only [tree_alloc])
  have ba1 := Below.alloc hbq (Below.size hbq) (.cells #[.int .i64 8, .int .i64 lv, .string a, .slice (some ⟨w1.heap.size, 0, none⟩) 1 1, .slice none 0 0, .slice none 0 0] 28)
  have ba2 := Below.alloc ba1 (Below.size ba1) (.cells #[.int .i64 8, .int .i64 0, .string a, .slice (some ⟨wq.heap.size + 1 + 1, 0, none⟩) 2 2, .slice none 0 0, .slice none 0 0] 28)
  have ba3 := Below.alloc ba2 (Below.size ba2) (.cells #[.string b, .string b] 9)
  have ba4 := Below.alloc ba3 (Below.size ba3) (.cells #[.int .i64 8, .int .i64 0, .string a, .slice (some ⟨w1.heap.size, 0, none⟩) 1 1, .slice none 0 0, .slice (some ⟨wq.heap.size + 1 + 1 + 1 + 1, 0, none⟩) 1 1] 28)
  have ba5 := Below.alloc ba4 (Below.size ba4) (.cells #[.int .i64 3, .int .i64 0, .string ⟨#[]⟩, .slice none 0 0, .slice none 0 0, .slice none 0 0] 28)
  have ba6 := Below.alloc ba5 (Below.size ba5) (.cells #[.int .i64 8, .int .i64 lv, .string a, .slice (some ⟨w1.heap.size, 0, none⟩) 1 1, .slice none 0 0, .slice none 0 0] 28)
  have c1 := rX ((((((wq.alloc (.cells #[.int .i64 8, .int .i64 lv, .string a, .slice (some ⟨w1.heap.size, 0, none⟩) 1 1, .slice none 0 0, .slice none 0 0] 28)).alloc (.cells #[.int .i64 8, .int .i64 0, .string a, .slice (some ⟨wq.heap.size + 1 + 1, 0, none⟩) 2 2, .slice none 0 0, .slice none 0 0] 28)).alloc (.cells #[.string b, .string b] 9)).alloc (.cells #[.int .i64 8, .int .i64 0, .string a, .slice (some ⟨w1.heap.size, 0, none⟩) 1 1, .slice none 0 0, .slice (some ⟨wq.heap.size + 1 + 1 + 1 + 1, 0, none⟩) 1 1] 28)).alloc (.cells #[.int .i64 3, .int .i64 0, .string ⟨#[]⟩, .slice none 0 0, .slice none 0 0, .slice none 0 0] 28)).alloc (.cells #[.int .i64 8, .int .i64 lv, .string a, .slice (some ⟨w1.heap.size, 0, none⟩) 1 1, .slice none 0 0, .slice none 0 0] 28)) (some ⟨wq.heap.size + 1 + 1 + 1 + 1 + 1, 0, none⟩) ba6 (one_blk (c3 := 1) (c4 := 0) (c5 := 0) (l3 := [b]) (l4 := []) (l5 := []) f6 (one_str fS) (Nat.le_refl _) (nil_C _ _ _) (Nat.le_refl _) (nil_C _ _ _) (Nat.le_refl _))
  refine c1.mono ?_
  rintro e v1 ⟨rfl, hc1⟩
  have gS := blk_below fS hc1
  have gY := blk_below fY hc1
  have gS2 := blk_below fS2 hc1
  have gZ := blk_below fZ hc1
  have gK := blk_below fK hc1
  have hbv1 := ba6.trans (Below.mono hc1 ba6.size)
  clear c1 fS fY fS2 fZ fK f6 ba1 ba2 ba3 ba4 ba5 ba6 hc1 x0 x1 x2 x3 x4 x5 y0 y1 y2 y3 y4 y5 z0 z1 z2 z3 z4 z5 lX lY lD lS
  obtain ⟨z0, z1, z2, z3, z4, z5⟩ := box_cells gY
  go_wp2_with fail
  have bv := Below.alloc hbv1 hbv1.size (.cells #[.int .i64 8, .int .i64 0, .string a, .slice (some ⟨wq.heap.size + 1 + 1, 0, none⟩) 2 2, .slice none 0 0, .slice none 0 0] 28)
  have c2 := rY (v1.alloc (.cells #[.int .i64 8, .int .i64 0, .string a, .slice (some ⟨wq.heap.size + 1 + 1, 0, none⟩) 2 2, .slice none 0 0, .slice none 0 0] 28)) (some ⟨v1.heap.size, 0, none⟩) bv (one_blk (c3 := 2) (c4 := 0) (c5 := 0) (l3 := [b, b]) (l4 := []) (l5 := []) (blk_new v1 (.cells #[.int .i64 8, .int .i64 0, .string a, .slice (some ⟨wq.heap.size + 1 + 1, 0, none⟩) 2 2, .slice none 0 0, .slice none 0 0] 28)) (two_str (blk_alloc gS2 (.cells #[.int .i64 8, .int .i64 0, .string a, .slice (some ⟨wq.heap.size + 1 + 1, 0, none⟩) 2 2, .slice none 0 0, .slice none 0 0] 28))) (Nat.le_refl _) (nil_C _ _ _) (Nat.le_refl _) (nil_C _ _ _) (Nat.le_refl _))
  refine c2.mono ?_
  rintro e v2 ⟨rfl, hc2⟩
  have hS := blk_below (blk_alloc gS (.cells #[.int .i64 8, .int .i64 0, .string a, .slice (some ⟨wq.heap.size + 1 + 1, 0, none⟩) 2 2, .slice none 0 0, .slice none 0 0] 28)) hc2
  have hZ := blk_below (blk_alloc gZ (.cells #[.int .i64 8, .int .i64 0, .string a, .slice (some ⟨wq.heap.size + 1 + 1, 0, none⟩) 2 2, .slice none 0 0, .slice none 0 0] 28)) hc2
  have hK := blk_below (blk_alloc gK (.cells #[.int .i64 8, .int .i64 0, .string a, .slice (some ⟨wq.heap.size + 1 + 1, 0, none⟩) 2 2, .slice none 0 0, .slice none 0 0] 28)) hc2
  have hbv2 := bv.trans (Below.mono hc2 bv.size)
  clear c2 bv hc2 gS gY gS2 gZ gK z0 z1 z2 z3 z4 z5
  obtain ⟨z0, z1, z2, z3, z4, z5⟩ := box_cells hZ
  go_wp2_with fail
  have bz := Below.alloc hbv2 hbv2.size (.cells #[.int .i64 8, .int .i64 0, .string a, .slice (some ⟨w1.heap.size, 0, none⟩) 1 1, .slice none 0 0, .slice (some ⟨wq.heap.size + 1 + 1 + 1 + 1, 0, none⟩) 1 1] 28)
  have c3 := rZ (v2.alloc (.cells #[.int .i64 8, .int .i64 0, .string a, .slice (some ⟨w1.heap.size, 0, none⟩) 1 1, .slice none 0 0, .slice (some ⟨wq.heap.size + 1 + 1 + 1 + 1, 0, none⟩) 1 1] 28)) (some ⟨v2.heap.size, 0, none⟩) bz (one_blk (c3 := 1) (c4 := 0) (c5 := 1) (l3 := [b]) (l4 := []) (l5 := [⟨3, 0, ⟨#[]⟩, [], [], []⟩]) (blk_new v2 (.cells #[.int .i64 8, .int .i64 0, .string a, .slice (some ⟨w1.heap.size, 0, none⟩) 1 1, .slice none 0 0, .slice (some ⟨wq.heap.size + 1 + 1 + 1 + 1, 0, none⟩) 1 1] 28)) (one_str (blk_alloc hS (.cells #[.int .i64 8, .int .i64 0, .string a, .slice (some ⟨w1.heap.size, 0, none⟩) 1 1, .slice none 0 0, .slice (some ⟨wq.heap.size + 1 + 1 + 1 + 1, 0, none⟩) 1 1] 28))) (Nat.le_refl _) (nil_C _ _ _) (Nat.le_refl _) (one_blk (c3 := 0) (c4 := 0) (c5 := 0) (l3 := []) (l4 := []) (l5 := []) (blk_alloc hK (.cells #[.int .i64 8, .int .i64 0, .string a, .slice (some ⟨w1.heap.size, 0, none⟩) 1 1, .slice none 0 0, .slice (some ⟨wq.heap.size + 1 + 1 + 1 + 1, 0, none⟩) 1 1] 28)) (nil_C _ _ _) (Nat.le_refl _) (nil_C _ _ _) (Nat.le_refl _) (nil_C _ _ _) (Nat.le_refl _)) (Nat.le_refl _))
  refine c3.mono ?_
  rintro e v3 ⟨rfl, hc3⟩
  have hbv3 := bz.trans (Below.mono hc3 bz.size)
  clear c3 bz hc3 hS hZ hK z0 z1 z2 z3 z4 z5
  go_wp2_with fail
  go_ret
  exact ⟨rfl, hbv3⟩
set_option maxHeartbeats 8000000 in
set_option maxRecDepth 1000000 in
theorem lab_mt (a b : ByteArray) (lv : Int) (w : World) (hT : Tabs w) (cW : ∀ W, Tabs W → Calls Tryd.prog 7 #[] W fun e w' => e = .returned (.bool true) ∧ Below W.heap.size W w') (h : a.size + b.size ≤ 2000)
    (r1 : RightOk w [⟨8, 0, a, [b], [], []⟩] false) (cL : Says w 12 #[.string a] (.bool true)) (hE : b.toList.isEmpty = true) (rX : RightOk w [⟨8, lv, a, [b], [], []⟩] false) (rY : RightOk w [⟨8, 0, a, [b, b], [], []⟩] false) (rZ : RightOk w [⟨8, 0, a, [b], [], [⟨3, 0, ⟨#[]⟩, [], [], []⟩]⟩] false) :
    Calls Tryd.prog 6 #[.string a, .string b, .int .i64 lv] w fun e w' => e = .returned (.bool true) ∧ Below w.heap.size w w' := by
  have hg : decide ((a.size : Int) + (b.size : Int) > 2000) = false := decide_eq_false (by omega)
  go_enter Tryd.func6, Tryd.ntmps6
  go_wp2_with (go_at_call 7; refine (cW _ hT).mono ?_; rintro e w1 ⟨rfl, hb1⟩)
  have bb0 := Below.alloc hb1 (Below.size hb1) (.cells #[.string b] 9)
  have bb1 := Below.alloc bb0 (Below.size bb0) (.cells #[.int .i64 8, .int .i64 0, .string a, .slice (some ⟨w1.heap.size, 0, none⟩) 1 1, .slice none 0 0, .slice none 0 0] 28)
  have bb2 := Below.alloc bb1 (Below.size bb1) (.cells #[.int .i64 8, .int .i64 0, .string a, .slice (some ⟨w1.heap.size, 0, none⟩) 1 1, .slice none 0 0, .slice none 0 0] 28)
  have kS := (blk_alloc (blk_alloc (blk_new w1 (.cells #[.string b] 9)) (.cells #[.int .i64 8, .int .i64 0, .string a, .slice (some ⟨w1.heap.size, 0, none⟩) 1 1, .slice none 0 0, .slice none 0 0] 28)) (.cells #[.int .i64 8, .int .i64 0, .string a, .slice (some ⟨w1.heap.size, 0, none⟩) 1 1, .slice none 0 0, .slice none 0 0] 28))
  have kD := blk_alloc (blk_newAt (.cells #[.int .i64 8, .int .i64 0, .string a, .slice (some ⟨w1.heap.size, 0, none⟩) 1 1, .slice none 0 0, .slice none 0 0] 28) (tree_alloc w1 (.cells #[.string b] 9))) (.cells #[.int .i64 8, .int .i64 0, .string a, .slice (some ⟨w1.heap.size, 0, none⟩) 1 1, .slice none 0 0, .slice none 0 0] 28)
  have c1 := r1 (((w1.alloc (.cells #[.string b] 9)).alloc (.cells #[.int .i64 8, .int .i64 0, .string a, .slice (some ⟨w1.heap.size, 0, none⟩) 1 1, .slice none 0 0, .slice none 0 0] 28)).alloc (.cells #[.int .i64 8, .int .i64 0, .string a, .slice (some ⟨w1.heap.size, 0, none⟩) 1 1, .slice none 0 0, .slice none 0 0] 28)) (some ⟨w1.heap.size + 1 + 1, 0, none⟩) bb2 (one_blk (c3 := 1) (c4 := 0) (c5 := 0) (l3 := [b]) (l4 := []) (l5 := []) (blk_newAt (.cells #[.int .i64 8, .int .i64 0, .string a, .slice (some ⟨w1.heap.size, 0, none⟩) 1 1, .slice none 0 0, .slice none 0 0] 28) (by simp only [tree_alloc])) (one_str kS) (Nat.le_refl _) (nil_C _ _ _) (Nat.le_refl _) (nil_C _ _ _) (Nat.le_refl _))
  refine c1.mono ?_
  rintro e w2 ⟨rfl, hb3⟩
  have jS := blk_below kS hb3
  have jD := blk_below kD hb3
  have hb4 := bb2.trans (Below.mono hb3 bb2.size)
  clear c1 kS kD hb3 bb0 bb1 bb2
  go_wp2_with (go_at_call 12; refine (cL _ hb4).mono ?_; rintro e wq ⟨rfl, hb5⟩; have lS := blk_below jS hb5; have lD := blk_below jD hb5; have hbq := hb4.trans (Below.mono hb5 hb4.size); obtain ⟨z0, z1, z2, z3, z4, z5⟩ := box_cells lD; have lX := blk_alloc lD (.cells #[.int .i64 8, .int .i64 lv, .string a, .slice (some ⟨w1.heap.size, 0, none⟩) 1 1, .slice none 0 0, .slice none 0 0] 28); obtain ⟨y0, y1, y2, y3, y4, y5⟩ := box_cells lX; have lY := blk_alloc (blk_alloc lX (.cells #[.int .i64 8, .int .i64 0, .string a, .slice (some ⟨wq.heap.size + 1 + 1, 0, none⟩) 2 2, .slice none 0 0, .slice none 0 0] 28)) (.cells #[.string b, .string b] 9); obtain ⟨x0, x1, x2, x3, x4, x5⟩ := box_cells lY; clear jS jD hb5)
  have fS := (blk_alloc (blk_alloc (blk_alloc (blk_alloc (blk_alloc (blk_alloc lS (.cells #[.int .i64 8, .int .i64 lv, .string a, .slice (some ⟨w1.heap.size, 0, none⟩) 1 1, .slice none 0 0, .slice none 0 0] 28)) (.cells #[.int .i64 8, .int .i64 0, .string a, .slice (some ⟨wq.heap.size + 1 + 1, 0, none⟩) 2 2, .slice none 0 0, .slice none 0 0] 28)) (.cells #[.string b, .string b] 9)) (.cells #[.int .i64 8, .int .i64 0, .string a, .slice (some ⟨w1.heap.size, 0, none⟩) 1 1, .slice none 0 0, .slice (some ⟨wq.heap.size + 1 + 1 + 1 + 1, 0, none⟩) 1 1] 28)) (.cells #[.int .i64 3, .int .i64 0, .string ⟨#[]⟩, .slice none 0 0, .slice none 0 0, .slice none 0 0] 28)) (.cells #[.int .i64 8, .int .i64 lv, .string a, .slice (some ⟨w1.heap.size, 0, none⟩) 1 1, .slice none 0 0, .slice none 0 0] 28))
  have fY := (blk_alloc (blk_alloc (blk_alloc (blk_alloc (blk_newAt (g := wq.heap.size + 1) (.cells #[.int .i64 8, .int .i64 0, .string a, .slice (some ⟨wq.heap.size + 1 + 1, 0, none⟩) 2 2, .slice none 0 0, .slice none 0 0] 28) (tree_alloc wq (.cells #[.int .i64 8, .int .i64 lv, .string a, .slice (some ⟨w1.heap.size, 0, none⟩) 1 1, .slice none 0 0, .slice none 0 0] 28))) (.cells #[.string b, .string b] 9)) (.cells #[.int .i64 8, .int .i64 0, .string a, .slice (some ⟨w1.heap.size, 0, none⟩) 1 1, .slice none 0 0, .slice (some ⟨wq.heap.size + 1 + 1 + 1 + 1, 0, none⟩) 1 1] 28)) (.cells #[.int .i64 3, .int .i64 0, .string ⟨#[]⟩, .slice none 0 0, .slice none 0 0, .slice none 0 0] 28)) (.cells #[.int .i64 8, .int .i64 lv, .string a, .slice (some ⟨w1.heap.size, 0, none⟩) 1 1, .slice none 0 0, .slice none 0 0] 28))
  have fS2 := (blk_alloc (blk_alloc (blk_alloc (blk_newAt (w := ((wq.alloc (.cells #[.int .i64 8, .int .i64 lv, .string a, .slice (some ⟨w1.heap.size, 0, none⟩) 1 1, .slice none 0 0, .slice none 0 0] 28)).alloc (.cells #[.int .i64 8, .int .i64 0, .string a, .slice (some ⟨wq.heap.size + 1 + 1, 0, none⟩) 2 2, .slice none 0 0, .slice none 0 0] 28))) (g := wq.heap.size + 1 + 1) (.cells #[.string b, .string b] 9) (by simp only [tree_alloc])) (.cells #[.int .i64 8, .int .i64 0, .string a, .slice (some ⟨w1.heap.size, 0, none⟩) 1 1, .slice none 0 0, .slice (some ⟨wq.heap.size + 1 + 1 + 1 + 1, 0, none⟩) 1 1] 28)) (.cells #[.int .i64 3, .int .i64 0, .string ⟨#[]⟩, .slice none 0 0, .slice none 0 0, .slice none 0 0] 28)) (.cells #[.int .i64 8, .int .i64 lv, .string a, .slice (some ⟨w1.heap.size, 0, none⟩) 1 1, .slice none 0 0, .slice none 0 0] 28))
  have fZ := (blk_alloc (blk_alloc (blk_newAt (w := (((wq.alloc (.cells #[.int .i64 8, .int .i64 lv, .string a, .slice (some ⟨w1.heap.size, 0, none⟩) 1 1, .slice none 0 0, .slice none 0 0] 28)).alloc (.cells #[.int .i64 8, .int .i64 0, .string a, .slice (some ⟨wq.heap.size + 1 + 1, 0, none⟩) 2 2, .slice none 0 0, .slice none 0 0] 28)).alloc (.cells #[.string b, .string b] 9))) (g := wq.heap.size + 1 + 1 + 1) (.cells #[.int .i64 8, .int .i64 0, .string a, .slice (some ⟨w1.heap.size, 0, none⟩) 1 1, .slice none 0 0, .slice (some ⟨wq.heap.size + 1 + 1 + 1 + 1, 0, none⟩) 1 1] 28) (by simp only [tree_alloc])) (.cells #[.int .i64 3, .int .i64 0, .string ⟨#[]⟩, .slice none 0 0, .slice none 0 0, .slice none 0 0] 28)) (.cells #[.int .i64 8, .int .i64 lv, .string a, .slice (some ⟨w1.heap.size, 0, none⟩) 1 1, .slice none 0 0, .slice none 0 0] 28))
  have fK := (blk_alloc (blk_newAt (w := ((((wq.alloc (.cells #[.int .i64 8, .int .i64 lv, .string a, .slice (some ⟨w1.heap.size, 0, none⟩) 1 1, .slice none 0 0, .slice none 0 0] 28)).alloc (.cells #[.int .i64 8, .int .i64 0, .string a, .slice (some ⟨wq.heap.size + 1 + 1, 0, none⟩) 2 2, .slice none 0 0, .slice none 0 0] 28)).alloc (.cells #[.string b, .string b] 9)).alloc (.cells #[.int .i64 8, .int .i64 0, .string a, .slice (some ⟨w1.heap.size, 0, none⟩) 1 1, .slice none 0 0, .slice (some ⟨wq.heap.size + 1 + 1 + 1 + 1, 0, none⟩) 1 1] 28))) (g := wq.heap.size + 1 + 1 + 1 + 1) (.cells #[.int .i64 3, .int .i64 0, .string ⟨#[]⟩, .slice none 0 0, .slice none 0 0, .slice none 0 0] 28) (by simp only [tree_alloc])) (.cells #[.int .i64 8, .int .i64 lv, .string a, .slice (some ⟨w1.heap.size, 0, none⟩) 1 1, .slice none 0 0, .slice none 0 0] 28))
  have f6 := blk_newAt (w := (((((wq.alloc (.cells #[.int .i64 8, .int .i64 lv, .string a, .slice (some ⟨w1.heap.size, 0, none⟩) 1 1, .slice none 0 0, .slice none 0 0] 28)).alloc (.cells #[.int .i64 8, .int .i64 0, .string a, .slice (some ⟨wq.heap.size + 1 + 1, 0, none⟩) 2 2, .slice none 0 0, .slice none 0 0] 28)).alloc (.cells #[.string b, .string b] 9)).alloc (.cells #[.int .i64 8, .int .i64 0, .string a, .slice (some ⟨w1.heap.size, 0, none⟩) 1 1, .slice none 0 0, .slice (some ⟨wq.heap.size + 1 + 1 + 1 + 1, 0, none⟩) 1 1] 28)).alloc (.cells #[.int .i64 3, .int .i64 0, .string ⟨#[]⟩, .slice none 0 0, .slice none 0 0, .slice none 0 0] 28))) (g := wq.heap.size + 1 + 1 + 1 + 1 + 1) (.cells #[.int .i64 8, .int .i64 lv, .string a, .slice (some ⟨w1.heap.size, 0, none⟩) 1 1, .slice none 0 0, .slice none 0 0] 28) (by simp only [tree_alloc])
  have ba1 := Below.alloc hbq (Below.size hbq) (.cells #[.int .i64 8, .int .i64 lv, .string a, .slice (some ⟨w1.heap.size, 0, none⟩) 1 1, .slice none 0 0, .slice none 0 0] 28)
  have ba2 := Below.alloc ba1 (Below.size ba1) (.cells #[.int .i64 8, .int .i64 0, .string a, .slice (some ⟨wq.heap.size + 1 + 1, 0, none⟩) 2 2, .slice none 0 0, .slice none 0 0] 28)
  have ba3 := Below.alloc ba2 (Below.size ba2) (.cells #[.string b, .string b] 9)
  have ba4 := Below.alloc ba3 (Below.size ba3) (.cells #[.int .i64 8, .int .i64 0, .string a, .slice (some ⟨w1.heap.size, 0, none⟩) 1 1, .slice none 0 0, .slice (some ⟨wq.heap.size + 1 + 1 + 1 + 1, 0, none⟩) 1 1] 28)
  have ba5 := Below.alloc ba4 (Below.size ba4) (.cells #[.int .i64 3, .int .i64 0, .string ⟨#[]⟩, .slice none 0 0, .slice none 0 0, .slice none 0 0] 28)
  have ba6 := Below.alloc ba5 (Below.size ba5) (.cells #[.int .i64 8, .int .i64 lv, .string a, .slice (some ⟨w1.heap.size, 0, none⟩) 1 1, .slice none 0 0, .slice none 0 0] 28)
  have c1 := rX ((((((wq.alloc (.cells #[.int .i64 8, .int .i64 lv, .string a, .slice (some ⟨w1.heap.size, 0, none⟩) 1 1, .slice none 0 0, .slice none 0 0] 28)).alloc (.cells #[.int .i64 8, .int .i64 0, .string a, .slice (some ⟨wq.heap.size + 1 + 1, 0, none⟩) 2 2, .slice none 0 0, .slice none 0 0] 28)).alloc (.cells #[.string b, .string b] 9)).alloc (.cells #[.int .i64 8, .int .i64 0, .string a, .slice (some ⟨w1.heap.size, 0, none⟩) 1 1, .slice none 0 0, .slice (some ⟨wq.heap.size + 1 + 1 + 1 + 1, 0, none⟩) 1 1] 28)).alloc (.cells #[.int .i64 3, .int .i64 0, .string ⟨#[]⟩, .slice none 0 0, .slice none 0 0, .slice none 0 0] 28)).alloc (.cells #[.int .i64 8, .int .i64 lv, .string a, .slice (some ⟨w1.heap.size, 0, none⟩) 1 1, .slice none 0 0, .slice none 0 0] 28)) (some ⟨wq.heap.size + 1 + 1 + 1 + 1 + 1, 0, none⟩) ba6 (one_blk (c3 := 1) (c4 := 0) (c5 := 0) (l3 := [b]) (l4 := []) (l5 := []) f6 (one_str fS) (Nat.le_refl _) (nil_C _ _ _) (Nat.le_refl _) (nil_C _ _ _) (Nat.le_refl _))
  refine c1.mono ?_
  rintro e v1 ⟨rfl, hc1⟩
  have gS := blk_below fS hc1
  have gY := blk_below fY hc1
  have gS2 := blk_below fS2 hc1
  have gZ := blk_below fZ hc1
  have gK := blk_below fK hc1
  have hbv1 := ba6.trans (Below.mono hc1 ba6.size)
  clear c1 fS fY fS2 fZ fK f6 ba1 ba2 ba3 ba4 ba5 ba6 hc1 x0 x1 x2 x3 x4 x5 y0 y1 y2 y3 y4 y5 z0 z1 z2 z3 z4 z5 lX lY lD lS
  obtain ⟨z0, z1, z2, z3, z4, z5⟩ := box_cells gY
  go_wp2_with fail
  have bv := Below.alloc hbv1 hbv1.size (.cells #[.int .i64 8, .int .i64 0, .string a, .slice (some ⟨wq.heap.size + 1 + 1, 0, none⟩) 2 2, .slice none 0 0, .slice none 0 0] 28)
  have c2 := rY (v1.alloc (.cells #[.int .i64 8, .int .i64 0, .string a, .slice (some ⟨wq.heap.size + 1 + 1, 0, none⟩) 2 2, .slice none 0 0, .slice none 0 0] 28)) (some ⟨v1.heap.size, 0, none⟩) bv (one_blk (c3 := 2) (c4 := 0) (c5 := 0) (l3 := [b, b]) (l4 := []) (l5 := []) (blk_new v1 (.cells #[.int .i64 8, .int .i64 0, .string a, .slice (some ⟨wq.heap.size + 1 + 1, 0, none⟩) 2 2, .slice none 0 0, .slice none 0 0] 28)) (two_str (blk_alloc gS2 (.cells #[.int .i64 8, .int .i64 0, .string a, .slice (some ⟨wq.heap.size + 1 + 1, 0, none⟩) 2 2, .slice none 0 0, .slice none 0 0] 28))) (Nat.le_refl _) (nil_C _ _ _) (Nat.le_refl _) (nil_C _ _ _) (Nat.le_refl _))
  refine c2.mono ?_
  rintro e v2 ⟨rfl, hc2⟩
  have hS := blk_below (blk_alloc gS (.cells #[.int .i64 8, .int .i64 0, .string a, .slice (some ⟨wq.heap.size + 1 + 1, 0, none⟩) 2 2, .slice none 0 0, .slice none 0 0] 28)) hc2
  have hZ := blk_below (blk_alloc gZ (.cells #[.int .i64 8, .int .i64 0, .string a, .slice (some ⟨wq.heap.size + 1 + 1, 0, none⟩) 2 2, .slice none 0 0, .slice none 0 0] 28)) hc2
  have hK := blk_below (blk_alloc gK (.cells #[.int .i64 8, .int .i64 0, .string a, .slice (some ⟨wq.heap.size + 1 + 1, 0, none⟩) 2 2, .slice none 0 0, .slice none 0 0] 28)) hc2
  have hbv2 := bv.trans (Below.mono hc2 bv.size)
  clear c2 bv hc2 gS gY gS2 gZ gK z0 z1 z2 z3 z4 z5
  obtain ⟨z0, z1, z2, z3, z4, z5⟩ := box_cells hZ
  go_wp2_with fail
  have bz := Below.alloc hbv2 hbv2.size (.cells #[.int .i64 8, .int .i64 0, .string a, .slice (some ⟨w1.heap.size, 0, none⟩) 1 1, .slice none 0 0, .slice (some ⟨wq.heap.size + 1 + 1 + 1 + 1, 0, none⟩) 1 1] 28)
  have c3 := rZ (v2.alloc (.cells #[.int .i64 8, .int .i64 0, .string a, .slice (some ⟨w1.heap.size, 0, none⟩) 1 1, .slice none 0 0, .slice (some ⟨wq.heap.size + 1 + 1 + 1 + 1, 0, none⟩) 1 1] 28)) (some ⟨v2.heap.size, 0, none⟩) bz (one_blk (c3 := 1) (c4 := 0) (c5 := 1) (l3 := [b]) (l4 := []) (l5 := [⟨3, 0, ⟨#[]⟩, [], [], []⟩]) (blk_new v2 (.cells #[.int .i64 8, .int .i64 0, .string a, .slice (some ⟨w1.heap.size, 0, none⟩) 1 1, .slice none 0 0, .slice (some ⟨wq.heap.size + 1 + 1 + 1 + 1, 0, none⟩) 1 1] 28)) (one_str (blk_alloc hS (.cells #[.int .i64 8, .int .i64 0, .string a, .slice (some ⟨w1.heap.size, 0, none⟩) 1 1, .slice none 0 0, .slice (some ⟨wq.heap.size + 1 + 1 + 1 + 1, 0, none⟩) 1 1] 28))) (Nat.le_refl _) (nil_C _ _ _) (Nat.le_refl _) (one_blk (c3 := 0) (c4 := 0) (c5 := 0) (l3 := []) (l4 := []) (l5 := []) (blk_alloc hK (.cells #[.int .i64 8, .int .i64 0, .string a, .slice (some ⟨w1.heap.size, 0, none⟩) 1 1, .slice none 0 0, .slice (some ⟨wq.heap.size + 1 + 1 + 1 + 1, 0, none⟩) 1 1] 28)) (nil_C _ _ _) (Nat.le_refl _) (nil_C _ _ _) (Nat.le_refl _) (nil_C _ _ _) (Nat.le_refl _)) (Nat.le_refl _))
  refine c3.mono ?_
  rintro e v3 ⟨rfl, hc3⟩
  have hbv3 := bz.trans (Below.mono hc3 bz.size)
  clear c3 bz hc3 hS hZ hK z0 z1 z2 z3 z4 z5
  go_wp2_with fail
  go_ret
  exact ⟨rfl, hbv3⟩
set_option maxHeartbeats 8000000 in
set_option maxRecDepth 1000000 in
theorem lab_no (a b : ByteArray) (lv : Int) (w : World) (hT : Tabs w) (cW : ∀ W, Tabs W → Calls Tryd.prog 7 #[] W fun e w' => e = .returned (.bool true) ∧ Below W.heap.size W w') (h : a.size + b.size ≤ 2000)
    (r1 : RightOk w [⟨8, 0, a, [b], [], []⟩] false) (cL : Says w 12 #[.string a] (.bool true)) (hE : b.toList.isEmpty = false) (rP : RightOk w [⟨1, 0, ⟨#[]⟩, [], [⟨4, b, [⟨2, ⟨#[99]⟩, []⟩]⟩], []⟩] false) (rX : RightOk w [⟨8, lv, a, [b], [], []⟩] false) (rY : RightOk w [⟨8, 0, a, [b, b], [], []⟩] false) (rZ : RightOk w [⟨8, 0, a, [b], [], [⟨3, 0, ⟨#[]⟩, [], [], []⟩]⟩] false) :
    Calls Tryd.prog 6 #[.string a, .string b, .int .i64 lv] w fun e w' => e = .returned (.bool true) ∧ Below w.heap.size w w' := by
  have hg : decide ((a.size : Int) + (b.size : Int) > 2000) = false := decide_eq_false (by omega)
  go_enter Tryd.func6, Tryd.ntmps6
  go_wp2_with (go_at_call 7; refine (cW _ hT).mono ?_; rintro e w1 ⟨rfl, hb1⟩)
  have bb0 := Below.alloc hb1 (Below.size hb1) (.cells #[.string b] 9)
  have bb1 := Below.alloc bb0 (Below.size bb0) (.cells #[.int .i64 8, .int .i64 0, .string a, .slice (some ⟨w1.heap.size, 0, none⟩) 1 1, .slice none 0 0, .slice none 0 0] 28)
  have bb2 := Below.alloc bb1 (Below.size bb1) (.cells #[.int .i64 8, .int .i64 0, .string a, .slice (some ⟨w1.heap.size, 0, none⟩) 1 1, .slice none 0 0, .slice none 0 0] 28)
  have kS := (blk_alloc (blk_alloc (blk_new w1 (.cells #[.string b] 9)) (.cells #[.int .i64 8, .int .i64 0, .string a, .slice (some ⟨w1.heap.size, 0, none⟩) 1 1, .slice none 0 0, .slice none 0 0] 28)) (.cells #[.int .i64 8, .int .i64 0, .string a, .slice (some ⟨w1.heap.size, 0, none⟩) 1 1, .slice none 0 0, .slice none 0 0] 28))
  have kD := blk_alloc (blk_newAt (.cells #[.int .i64 8, .int .i64 0, .string a, .slice (some ⟨w1.heap.size, 0, none⟩) 1 1, .slice none 0 0, .slice none 0 0] 28) (tree_alloc w1 (.cells #[.string b] 9))) (.cells #[.int .i64 8, .int .i64 0, .string a, .slice (some ⟨w1.heap.size, 0, none⟩) 1 1, .slice none 0 0, .slice none 0 0] 28)
  have c1 := r1 (((w1.alloc (.cells #[.string b] 9)).alloc (.cells #[.int .i64 8, .int .i64 0, .string a, .slice (some ⟨w1.heap.size, 0, none⟩) 1 1, .slice none 0 0, .slice none 0 0] 28)).alloc (.cells #[.int .i64 8, .int .i64 0, .string a, .slice (some ⟨w1.heap.size, 0, none⟩) 1 1, .slice none 0 0, .slice none 0 0] 28)) (some ⟨w1.heap.size + 1 + 1, 0, none⟩) bb2 (one_blk (c3 := 1) (c4 := 0) (c5 := 0) (l3 := [b]) (l4 := []) (l5 := []) (blk_newAt (.cells #[.int .i64 8, .int .i64 0, .string a, .slice (some ⟨w1.heap.size, 0, none⟩) 1 1, .slice none 0 0, .slice none 0 0] 28) (by simp only [tree_alloc])) (one_str kS) (Nat.le_refl _) (nil_C _ _ _) (Nat.le_refl _) (nil_C _ _ _) (Nat.le_refl _))
  refine c1.mono ?_
  rintro e w2 ⟨rfl, hb3⟩
  have jS := blk_below kS hb3
  have jD := blk_below kD hb3
  have hb4 := bb2.trans (Below.mono hb3 bb2.size)
  clear c1 kS kD hb3 bb0 bb1 bb2
  go_wp2_with (go_at_call 12; refine (cL _ hb4).mono ?_; rintro e w3 ⟨rfl, hb5⟩; have mS := blk_below jS hb5; have mD := blk_below jD hb5; have hb6 := hb4.trans (Below.mono hb5 hb4.size); clear jS jD hb5)
  have bp0 := Below.alloc hb6 (Below.size hb6) (.cells #[.int .i64 2, .string ⟨#[99]⟩, .slice none 0 0] 33)
  have bp1 := Below.alloc bp0 (Below.size bp0) (.cells #[.int .i64 4, .string b, .slice (some ⟨w3.heap.size, 0, none⟩) 1 1] 33)
  have bp2 := Below.alloc bp1 (Below.size bp1) (.cells #[.int .i64 1, .int .i64 0, .string ⟨#[]⟩, .slice none 0 0, .slice (some ⟨w3.heap.size + 1, 0, none⟩) 1 1, .slice none 0 0] 28)
  have qC := (blk_alloc (blk_alloc (blk_new w3 (.cells #[.int .i64 2, .string ⟨#[99]⟩, .slice none 0 0] 33)) (.cells #[.int .i64 4, .string b, .slice (some ⟨w3.heap.size, 0, none⟩) 1 1] 33)) (.cells #[.int .i64 1, .int .i64 0, .string ⟨#[]⟩, .slice none 0 0, .slice (some ⟨w3.heap.size + 1, 0, none⟩) 1 1, .slice none 0 0] 28))
  have qL := blk_alloc (blk_newAt (.cells #[.int .i64 4, .string b, .slice (some ⟨w3.heap.size, 0, none⟩) 1 1] 33) (tree_alloc w3 (.cells #[.int .i64 2, .string ⟨#[99]⟩, .slice none 0 0] 33))) (.cells #[.int .i64 1, .int .i64 0, .string ⟨#[]⟩, .slice none 0 0, .slice (some ⟨w3.heap.size + 1, 0, none⟩) 1 1, .slice none 0 0] 28)
  have c1 := rP (((w3.alloc (.cells #[.int .i64 2, .string ⟨#[99]⟩, .slice none 0 0] 33)).alloc (.cells #[.int .i64 4, .string b, .slice (some ⟨w3.heap.size, 0, none⟩) 1 1] 33)).alloc (.cells #[.int .i64 1, .int .i64 0, .string ⟨#[]⟩, .slice none 0 0, .slice (some ⟨w3.heap.size + 1, 0, none⟩) 1 1, .slice none 0 0] 28)) (some ⟨w3.heap.size + 1 + 1, 0, none⟩) bp2 (one_blk (c3 := 0) (c4 := 1) (c5 := 0) (l3 := []) (l4 := [⟨4, b, [⟨2, ⟨#[99]⟩, []⟩]⟩]) (l5 := []) (blk_newAt (.cells #[.int .i64 1, .int .i64 0, .string ⟨#[]⟩, .slice none 0 0, .slice (some ⟨w3.heap.size + 1, 0, none⟩) 1 1, .slice none 0 0] 28) (by simp only [tree_alloc])) (nil_C _ _ _) (Nat.le_refl _) (one_span (c2 := 1) (l2 := [⟨2, ⟨#[99]⟩, []⟩]) qL (one_span (c2 := 0) (l2 := []) qC (nil_C _ _ _) (Nat.le_refl _)) (Nat.le_refl _)) (Nat.le_refl _) (nil_C _ _ _) (Nat.le_refl _))
  refine c1.mono ?_
  rintro e wq ⟨rfl, hb7⟩
  have lS := blk_below (blk_alloc (blk_alloc (blk_alloc mS (.cells #[.int .i64 2, .string ⟨#[99]⟩, .slice none 0 0] 33)) (.cells #[.int .i64 4, .string b, .slice (some ⟨w3.heap.size, 0, none⟩) 1 1] 33)) (.cells #[.int .i64 1, .int .i64 0, .string ⟨#[]⟩, .slice none 0 0, .slice (some ⟨w3.heap.size + 1, 0, none⟩) 1 1, .slice none 0 0] 28)) hb7
  have lD := blk_below (blk_alloc (blk_alloc (blk_alloc mD (.cells #[.int .i64 2, .string ⟨#[99]⟩, .slice none 0 0] 33)) (.cells #[.int .i64 4, .string b, .slice (some ⟨w3.heap.size, 0, none⟩) 1 1] 33)) (.cells #[.int .i64 1, .int .i64 0, .string ⟨#[]⟩, .slice none 0 0, .slice (some ⟨w3.heap.size + 1, 0, none⟩) 1 1, .slice none 0 0] 28)) hb7
  have hbq := bp2.trans (Below.mono hb7 bp2.size)
  clear c1 qC qL hb7 bp0 bp1 bp2 mS mD
  obtain ⟨z0, z1, z2, z3, z4, z5⟩ := box_cells lD
  have lX := blk_alloc lD (.cells #[.int .i64 8, .int .i64 lv, .string a, .slice (some ⟨w1.heap.size, 0, none⟩) 1 1, .slice none 0 0, .slice none 0 0] 28)
  obtain ⟨y0, y1, y2, y3, y4, y5⟩ := box_cells lX
  have lY := blk_alloc (blk_alloc lX (.cells #[.int .i64 8, .int .i64 0, .string a, .slice (some ⟨wq.heap.size + 1 + 1, 0, none⟩) 2 2, .slice none 0 0, .slice none 0 0] 28)) (.cells #[.string b, .string b] 9)
  obtain ⟨x0, x1, x2, x3, x4, x5⟩ := box_cells lY
  go_wp2_with fail
  have fS := (blk_alloc (blk_alloc (blk_alloc (blk_alloc (blk_alloc (blk_alloc lS (.cells #[.int .i64 8, .int .i64 lv, .string a, .slice (some ⟨w1.heap.size, 0, none⟩) 1 1, .slice none 0 0, .slice none 0 0] 28)) (.cells #[.int .i64 8, .int .i64 0, .string a, .slice (some ⟨wq.heap.size + 1 + 1, 0, none⟩) 2 2, .slice none 0 0, .slice none 0 0] 28)) (.cells #[.string b, .string b] 9)) (.cells #[.int .i64 8, .int .i64 0, .string a, .slice (some ⟨w1.heap.size, 0, none⟩) 1 1, .slice none 0 0, .slice (some ⟨wq.heap.size + 1 + 1 + 1 + 1, 0, none⟩) 1 1] 28)) (.cells #[.int .i64 3, .int .i64 0, .string ⟨#[]⟩, .slice none 0 0, .slice none 0 0, .slice none 0 0] 28)) (.cells #[.int .i64 8, .int .i64 lv, .string a, .slice (some ⟨w1.heap.size, 0, none⟩) 1 1, .slice none 0 0, .slice none 0 0] 28))
  have fY := (blk_alloc (blk_alloc (blk_alloc (blk_alloc (blk_newAt (g := wq.heap.size + 1) (.cells #[.int .i64 8, .int .i64 0, .string a, .slice (some ⟨wq.heap.size + 1 + 1, 0, none⟩) 2 2, .slice none 0 0, .slice none 0 0] 28) (tree_alloc wq (.cells #[.int .i64 8, .int .i64 lv, .string a, .slice (some ⟨w1.heap.size, 0, none⟩) 1 1, .slice none 0 0, .slice none 0 0] 28))) (.cells #[.string b, .string b] 9)) (.cells #[.int .i64 8, .int .i64 0, .string a, .slice (some ⟨w1.heap.size, 0, none⟩) 1 1, .slice none 0 0, .slice (some ⟨wq.heap.size + 1 + 1 + 1 + 1, 0, none⟩) 1 1] 28)) (.cells #[.int .i64 3, .int .i64 0, .string ⟨#[]⟩, .slice none 0 0, .slice none 0 0, .slice none 0 0] 28)) (.cells #[.int .i64 8, .int .i64 lv, .string a, .slice (some ⟨w1.heap.size, 0, none⟩) 1 1, .slice none 0 0, .slice none 0 0] 28))
  have fS2 := (blk_alloc (blk_alloc (blk_alloc (blk_newAt (w := ((wq.alloc (.cells #[.int .i64 8, .int .i64 lv, .string a, .slice (some ⟨w1.heap.size, 0, none⟩) 1 1, .slice none 0 0, .slice none 0 0] 28)).alloc (.cells #[.int .i64 8, .int .i64 0, .string a, .slice (some ⟨wq.heap.size + 1 + 1, 0, none⟩) 2 2, .slice none 0 0, .slice none 0 0] 28))) (g := wq.heap.size + 1 + 1) (.cells #[.string b, .string b] 9) (by simp only [tree_alloc])) (.cells #[.int .i64 8, .int .i64 0, .string a, .slice (some ⟨w1.heap.size, 0, none⟩) 1 1, .slice none 0 0, .slice (some ⟨wq.heap.size + 1 + 1 + 1 + 1, 0, none⟩) 1 1] 28)) (.cells #[.int .i64 3, .int .i64 0, .string ⟨#[]⟩, .slice none 0 0, .slice none 0 0, .slice none 0 0] 28)) (.cells #[.int .i64 8, .int .i64 lv, .string a, .slice (some ⟨w1.heap.size, 0, none⟩) 1 1, .slice none 0 0, .slice none 0 0] 28))
  have fZ := (blk_alloc (blk_alloc (blk_newAt (w := (((wq.alloc (.cells #[.int .i64 8, .int .i64 lv, .string a, .slice (some ⟨w1.heap.size, 0, none⟩) 1 1, .slice none 0 0, .slice none 0 0] 28)).alloc (.cells #[.int .i64 8, .int .i64 0, .string a, .slice (some ⟨wq.heap.size + 1 + 1, 0, none⟩) 2 2, .slice none 0 0, .slice none 0 0] 28)).alloc (.cells #[.string b, .string b] 9))) (g := wq.heap.size + 1 + 1 + 1) (.cells #[.int .i64 8, .int .i64 0, .string a, .slice (some ⟨w1.heap.size, 0, none⟩) 1 1, .slice none 0 0, .slice (some ⟨wq.heap.size + 1 + 1 + 1 + 1, 0, none⟩) 1 1] 28) (by simp only [tree_alloc])) (.cells #[.int .i64 3, .int .i64 0, .string ⟨#[]⟩, .slice none 0 0, .slice none 0 0, .slice none 0 0] 28)) (.cells #[.int .i64 8, .int .i64 lv, .string a, .slice (some ⟨w1.heap.size, 0, none⟩) 1 1, .slice none 0 0, .slice none 0 0] 28))
  have fK := (blk_alloc (blk_newAt (w := ((((wq.alloc (.cells #[.int .i64 8, .int .i64 lv, .string a, .slice (some ⟨w1.heap.size, 0, none⟩) 1 1, .slice none 0 0, .slice none 0 0] 28)).alloc (.cells #[.int .i64 8, .int .i64 0, .string a, .slice (some ⟨wq.heap.size + 1 + 1, 0, none⟩) 2 2, .slice none 0 0, .slice none 0 0] 28)).alloc (.cells #[.string b, .string b] 9)).alloc (.cells #[.int .i64 8, .int .i64 0, .string a, .slice (some ⟨w1.heap.size, 0, none⟩) 1 1, .slice none 0 0, .slice (some ⟨wq.heap.size + 1 + 1 + 1 + 1, 0, none⟩) 1 1] 28))) (g := wq.heap.size + 1 + 1 + 1 + 1) (.cells #[.int .i64 3, .int .i64 0, .string ⟨#[]⟩, .slice none 0 0, .slice none 0 0, .slice none 0 0] 28) (by simp only [tree_alloc])) (.cells #[.int .i64 8, .int .i64 lv, .string a, .slice (some ⟨w1.heap.size, 0, none⟩) 1 1, .slice none 0 0, .slice none 0 0] 28))
  have f6 := blk_newAt (w := (((((wq.alloc (.cells #[.int .i64 8, .int .i64 lv, .string a, .slice (some ⟨w1.heap.size, 0, none⟩) 1 1, .slice none 0 0, .slice none 0 0] 28)).alloc (.cells #[.int .i64 8, .int .i64 0, .string a, .slice (some ⟨wq.heap.size + 1 + 1, 0, none⟩) 2 2, .slice none 0 0, .slice none 0 0] 28)).alloc (.cells #[.string b, .string b] 9)).alloc (.cells #[.int .i64 8, .int .i64 0, .string a, .slice (some ⟨w1.heap.size, 0, none⟩) 1 1, .slice none 0 0, .slice (some ⟨wq.heap.size + 1 + 1 + 1 + 1, 0, none⟩) 1 1] 28)).alloc (.cells #[.int .i64 3, .int .i64 0, .string ⟨#[]⟩, .slice none 0 0, .slice none 0 0, .slice none 0 0] 28))) (g := wq.heap.size + 1 + 1 + 1 + 1 + 1) (.cells #[.int .i64 8, .int .i64 lv, .string a, .slice (some ⟨w1.heap.size, 0, none⟩) 1 1, .slice none 0 0, .slice none 0 0] 28) (by simp only [tree_alloc])
  have ba1 := Below.alloc hbq (Below.size hbq) (.cells #[.int .i64 8, .int .i64 lv, .string a, .slice (some ⟨w1.heap.size, 0, none⟩) 1 1, .slice none 0 0, .slice none 0 0] 28)
  have ba2 := Below.alloc ba1 (Below.size ba1) (.cells #[.int .i64 8, .int .i64 0, .string a, .slice (some ⟨wq.heap.size + 1 + 1, 0, none⟩) 2 2, .slice none 0 0, .slice none 0 0] 28)
  have ba3 := Below.alloc ba2 (Below.size ba2) (.cells #[.string b, .string b] 9)
  have ba4 := Below.alloc ba3 (Below.size ba3) (.cells #[.int .i64 8, .int .i64 0, .string a, .slice (some ⟨w1.heap.size, 0, none⟩) 1 1, .slice none 0 0, .slice (some ⟨wq.heap.size + 1 + 1 + 1 + 1, 0, none⟩) 1 1] 28)
  have ba5 := Below.alloc ba4 (Below.size ba4) (.cells #[.int .i64 3, .int .i64 0, .string ⟨#[]⟩, .slice none 0 0, .slice none 0 0, .slice none 0 0] 28)
  have ba6 := Below.alloc ba5 (Below.size ba5) (.cells #[.int .i64 8, .int .i64 lv, .string a, .slice (some ⟨w1.heap.size, 0, none⟩) 1 1, .slice none 0 0, .slice none 0 0] 28)
  have c1 := rX ((((((wq.alloc (.cells #[.int .i64 8, .int .i64 lv, .string a, .slice (some ⟨w1.heap.size, 0, none⟩) 1 1, .slice none 0 0, .slice none 0 0] 28)).alloc (.cells #[.int .i64 8, .int .i64 0, .string a, .slice (some ⟨wq.heap.size + 1 + 1, 0, none⟩) 2 2, .slice none 0 0, .slice none 0 0] 28)).alloc (.cells #[.string b, .string b] 9)).alloc (.cells #[.int .i64 8, .int .i64 0, .string a, .slice (some ⟨w1.heap.size, 0, none⟩) 1 1, .slice none 0 0, .slice (some ⟨wq.heap.size + 1 + 1 + 1 + 1, 0, none⟩) 1 1] 28)).alloc (.cells #[.int .i64 3, .int .i64 0, .string ⟨#[]⟩, .slice none 0 0, .slice none 0 0, .slice none 0 0] 28)).alloc (.cells #[.int .i64 8, .int .i64 lv, .string a, .slice (some ⟨w1.heap.size, 0, none⟩) 1 1, .slice none 0 0, .slice none 0 0] 28)) (some ⟨wq.heap.size + 1 + 1 + 1 + 1 + 1, 0, none⟩) ba6 (one_blk (c3 := 1) (c4 := 0) (c5 := 0) (l3 := [b]) (l4 := []) (l5 := []) f6 (one_str fS) (Nat.le_refl _) (nil_C _ _ _) (Nat.le_refl _) (nil_C _ _ _) (Nat.le_refl _))
  refine c1.mono ?_
  rintro e v1 ⟨rfl, hc1⟩
  have gS := blk_below fS hc1
  have gY := blk_below fY hc1
  have gS2 := blk_below fS2 hc1
  have gZ := blk_below fZ hc1
  have gK := blk_below fK hc1
  have hbv1 := ba6.trans (Below.mono hc1 ba6.size)
  clear c1 fS fY fS2 fZ fK f6 ba1 ba2 ba3 ba4 ba5 ba6 hc1 x0 x1 x2 x3 x4 x5 y0 y1 y2 y3 y4 y5 z0 z1 z2 z3 z4 z5 lX lY lD lS
  obtain ⟨z0, z1, z2, z3, z4, z5⟩ := box_cells gY
  go_wp2_with fail
  have bv := Below.alloc hbv1 hbv1.size (.cells #[.int .i64 8, .int .i64 0, .string a, .slice (some ⟨wq.heap.size + 1 + 1, 0, none⟩) 2 2, .slice none 0 0, .slice none 0 0] 28)
  have c2 := rY (v1.alloc (.cells #[.int .i64 8, .int .i64 0, .string a, .slice (some ⟨wq.heap.size + 1 + 1, 0, none⟩) 2 2, .slice none 0 0, .slice none 0 0] 28)) (some ⟨v1.heap.size, 0, none⟩) bv (one_blk (c3 := 2) (c4 := 0) (c5 := 0) (l3 := [b, b]) (l4 := []) (l5 := []) (blk_new v1 (.cells #[.int .i64 8, .int .i64 0, .string a, .slice (some ⟨wq.heap.size + 1 + 1, 0, none⟩) 2 2, .slice none 0 0, .slice none 0 0] 28)) (two_str (blk_alloc gS2 (.cells #[.int .i64 8, .int .i64 0, .string a, .slice (some ⟨wq.heap.size + 1 + 1, 0, none⟩) 2 2, .slice none 0 0, .slice none 0 0] 28))) (Nat.le_refl _) (nil_C _ _ _) (Nat.le_refl _) (nil_C _ _ _) (Nat.le_refl _))
  refine c2.mono ?_
  rintro e v2 ⟨rfl, hc2⟩
  have hS := blk_below (blk_alloc gS (.cells #[.int .i64 8, .int .i64 0, .string a, .slice (some ⟨wq.heap.size + 1 + 1, 0, none⟩) 2 2, .slice none 0 0, .slice none 0 0] 28)) hc2
  have hZ := blk_below (blk_alloc gZ (.cells #[.int .i64 8, .int .i64 0, .string a, .slice (some ⟨wq.heap.size + 1 + 1, 0, none⟩) 2 2, .slice none 0 0, .slice none 0 0] 28)) hc2
  have hK := blk_below (blk_alloc gK (.cells #[.int .i64 8, .int .i64 0, .string a, .slice (some ⟨wq.heap.size + 1 + 1, 0, none⟩) 2 2, .slice none 0 0, .slice none 0 0] 28)) hc2
  have hbv2 := bv.trans (Below.mono hc2 bv.size)
  clear c2 bv hc2 gS gY gS2 gZ gK z0 z1 z2 z3 z4 z5
  obtain ⟨z0, z1, z2, z3, z4, z5⟩ := box_cells hZ
  go_wp2_with fail
  have bz := Below.alloc hbv2 hbv2.size (.cells #[.int .i64 8, .int .i64 0, .string a, .slice (some ⟨w1.heap.size, 0, none⟩) 1 1, .slice none 0 0, .slice (some ⟨wq.heap.size + 1 + 1 + 1 + 1, 0, none⟩) 1 1] 28)
  have c3 := rZ (v2.alloc (.cells #[.int .i64 8, .int .i64 0, .string a, .slice (some ⟨w1.heap.size, 0, none⟩) 1 1, .slice none 0 0, .slice (some ⟨wq.heap.size + 1 + 1 + 1 + 1, 0, none⟩) 1 1] 28)) (some ⟨v2.heap.size, 0, none⟩) bz (one_blk (c3 := 1) (c4 := 0) (c5 := 1) (l3 := [b]) (l4 := []) (l5 := [⟨3, 0, ⟨#[]⟩, [], [], []⟩]) (blk_new v2 (.cells #[.int .i64 8, .int .i64 0, .string a, .slice (some ⟨w1.heap.size, 0, none⟩) 1 1, .slice none 0 0, .slice (some ⟨wq.heap.size + 1 + 1 + 1 + 1, 0, none⟩) 1 1] 28)) (one_str (blk_alloc hS (.cells #[.int .i64 8, .int .i64 0, .string a, .slice (some ⟨w1.heap.size, 0, none⟩) 1 1, .slice none 0 0, .slice (some ⟨wq.heap.size + 1 + 1 + 1 + 1, 0, none⟩) 1 1] 28))) (Nat.le_refl _) (nil_C _ _ _) (Nat.le_refl _) (one_blk (c3 := 0) (c4 := 0) (c5 := 0) (l3 := []) (l4 := []) (l5 := []) (blk_alloc hK (.cells #[.int .i64 8, .int .i64 0, .string a, .slice (some ⟨w1.heap.size, 0, none⟩) 1 1, .slice none 0 0, .slice (some ⟨wq.heap.size + 1 + 1 + 1 + 1, 0, none⟩) 1 1] 28)) (nil_C _ _ _) (Nat.le_refl _) (nil_C _ _ _) (Nat.le_refl _) (nil_C _ _ _) (Nat.le_refl _)) (Nat.le_refl _))
  refine c3.mono ?_
  rintro e v3 ⟨rfl, hc3⟩
  have hbv3 := bz.trans (Below.mono hc3 bz.size)
  clear c3 bz hc3 hS hZ hK z0 z1 z2 z3 z4 z5
  go_wp2_with fail
  go_ret
  exact ⟨rfl, hbv3⟩
set_option maxHeartbeats 8000000 in
set_option maxRecDepth 1000000 in
theorem lab_yes (a b : ByteArray) (lv : Int) (w : World) (hT : Tabs w) (cW : ∀ W, Tabs W → Calls Tryd.prog 7 #[] W fun e w' => e = .returned (.bool true) ∧ Below W.heap.size W w') (h : a.size + b.size ≤ 2000)
    (r1 : RightOk w [⟨8, 0, a, [b], [], []⟩] true) (cL : Says w 12 #[.string a] (.bool true)) (hE : b.toList.isEmpty = false) (c : Bool) (e0 : (lv == 0) = c) (rP : RightOk w [⟨1, 0, ⟨#[]⟩, [], [⟨4, b, [⟨2, ⟨#[99]⟩, []⟩]⟩], []⟩] true) (rX : RightOk w [⟨8, lv, a, [b], [], []⟩] c) (rY : RightOk w [⟨8, 0, a, [b, b], [], []⟩] false) (rZ : RightOk w [⟨8, 0, a, [b], [], [⟨3, 0, ⟨#[]⟩, [], [], []⟩]⟩] false) :
    Calls Tryd.prog 6 #[.string a, .string b, .int .i64 lv] w fun e w' => e = .returned (.bool true) ∧ Below w.heap.size w w' := by
  have hg : decide ((a.size : Int) + (b.size : Int) > 2000) = false := decide_eq_false (by omega)
  go_enter Tryd.func6, Tryd.ntmps6
  go_wp2_with (go_at_call 7; refine (cW _ hT).mono ?_; rintro e w1 ⟨rfl, hb1⟩)
  have bb0 := Below.alloc hb1 (Below.size hb1) (.cells #[.string b] 9)
  have bb1 := Below.alloc bb0 (Below.size bb0) (.cells #[.int .i64 8, .int .i64 0, .string a, .slice (some ⟨w1.heap.size, 0, none⟩) 1 1, .slice none 0 0, .slice none 0 0] 28)
  have bb2 := Below.alloc bb1 (Below.size bb1) (.cells #[.int .i64 8, .int .i64 0, .string a, .slice (some ⟨w1.heap.size, 0, none⟩) 1 1, .slice none 0 0, .slice none 0 0] 28)
  have kS := (blk_alloc (blk_alloc (blk_new w1 (.cells #[.string b] 9)) (.cells #[.int .i64 8, .int .i64 0, .string a, .slice (some ⟨w1.heap.size, 0, none⟩) 1 1, .slice none 0 0, .slice none 0 0] 28)) (.cells #[.int .i64 8, .int .i64 0, .string a, .slice (some ⟨w1.heap.size, 0, none⟩) 1 1, .slice none 0 0, .slice none 0 0] 28))
  have kD := blk_alloc (blk_newAt (.cells #[.int .i64 8, .int .i64 0, .string a, .slice (some ⟨w1.heap.size, 0, none⟩) 1 1, .slice none 0 0, .slice none 0 0] 28) (tree_alloc w1 (.cells #[.string b] 9))) (.cells #[.int .i64 8, .int .i64 0, .string a, .slice (some ⟨w1.heap.size, 0, none⟩) 1 1, .slice none 0 0, .slice none 0 0] 28)
  have c1 := r1 (((w1.alloc (.cells #[.string b] 9)).alloc (.cells #[.int .i64 8, .int .i64 0, .string a, .slice (some ⟨w1.heap.size, 0, none⟩) 1 1, .slice none 0 0, .slice none 0 0] 28)).alloc (.cells #[.int .i64 8, .int .i64 0, .string a, .slice (some ⟨w1.heap.size, 0, none⟩) 1 1, .slice none 0 0, .slice none 0 0] 28)) (some ⟨w1.heap.size + 1 + 1, 0, none⟩) bb2 (one_blk (c3 := 1) (c4 := 0) (c5 := 0) (l3 := [b]) (l4 := []) (l5 := []) (blk_newAt (.cells #[.int .i64 8, .int .i64 0, .string a, .slice (some ⟨w1.heap.size, 0, none⟩) 1 1, .slice none 0 0, .slice none 0 0] 28) (by simp only [tree_alloc])) (one_str kS) (Nat.le_refl _) (nil_C _ _ _) (Nat.le_refl _) (nil_C _ _ _) (Nat.le_refl _))
  refine c1.mono ?_
  rintro e w2 ⟨rfl, hb3⟩
  have jS := blk_below kS hb3
  have jD := blk_below kD hb3
  have hb4 := bb2.trans (Below.mono hb3 bb2.size)
  clear c1 kS kD hb3 bb0 bb1 bb2
  go_wp2_with (go_at_call 12; refine (cL _ hb4).mono ?_; rintro e w3 ⟨rfl, hb5⟩; have mS := blk_below jS hb5; have mD := blk_below jD hb5; have hb6 := hb4.trans (Below.mono hb5 hb4.size); clear jS jD hb5)
  have bp0 := Below.alloc hb6 (Below.size hb6) (.cells #[.int .i64 2, .string ⟨#[99]⟩, .slice none 0 0] 33)
  have bp1 := Below.alloc bp0 (Below.size bp0) (.cells #[.int .i64 4, .string b, .slice (some ⟨w3.heap.size, 0, none⟩) 1 1] 33)
  have bp2 := Below.alloc bp1 (Below.size bp1) (.cells #[.int .i64 1, .int .i64 0, .string ⟨#[]⟩, .slice none 0 0, .slice (some ⟨w3.heap.size + 1, 0, none⟩) 1 1, .slice none 0 0] 28)
  have qC := (blk_alloc (blk_alloc (blk_new w3 (.cells #[.int .i64 2, .string ⟨#[99]⟩, .slice none 0 0] 33)) (.cells #[.int .i64 4, .string b, .slice (some ⟨w3.heap.size, 0, none⟩) 1 1] 33)) (.cells #[.int .i64 1, .int .i64 0, .string ⟨#[]⟩, .slice none 0 0, .slice (some ⟨w3.heap.size + 1, 0, none⟩) 1 1, .slice none 0 0] 28))
  have qL := blk_alloc (blk_newAt (.cells #[.int .i64 4, .string b, .slice (some ⟨w3.heap.size, 0, none⟩) 1 1] 33) (tree_alloc w3 (.cells #[.int .i64 2, .string ⟨#[99]⟩, .slice none 0 0] 33))) (.cells #[.int .i64 1, .int .i64 0, .string ⟨#[]⟩, .slice none 0 0, .slice (some ⟨w3.heap.size + 1, 0, none⟩) 1 1, .slice none 0 0] 28)
  have c1 := rP (((w3.alloc (.cells #[.int .i64 2, .string ⟨#[99]⟩, .slice none 0 0] 33)).alloc (.cells #[.int .i64 4, .string b, .slice (some ⟨w3.heap.size, 0, none⟩) 1 1] 33)).alloc (.cells #[.int .i64 1, .int .i64 0, .string ⟨#[]⟩, .slice none 0 0, .slice (some ⟨w3.heap.size + 1, 0, none⟩) 1 1, .slice none 0 0] 28)) (some ⟨w3.heap.size + 1 + 1, 0, none⟩) bp2 (one_blk (c3 := 0) (c4 := 1) (c5 := 0) (l3 := []) (l4 := [⟨4, b, [⟨2, ⟨#[99]⟩, []⟩]⟩]) (l5 := []) (blk_newAt (.cells #[.int .i64 1, .int .i64 0, .string ⟨#[]⟩, .slice none 0 0, .slice (some ⟨w3.heap.size + 1, 0, none⟩) 1 1, .slice none 0 0] 28) (by simp only [tree_alloc])) (nil_C _ _ _) (Nat.le_refl _) (one_span (c2 := 1) (l2 := [⟨2, ⟨#[99]⟩, []⟩]) qL (one_span (c2 := 0) (l2 := []) qC (nil_C _ _ _) (Nat.le_refl _)) (Nat.le_refl _)) (Nat.le_refl _) (nil_C _ _ _) (Nat.le_refl _))
  refine c1.mono ?_
  rintro e wq ⟨rfl, hb7⟩
  have lS := blk_below (blk_alloc (blk_alloc (blk_alloc mS (.cells #[.int .i64 2, .string ⟨#[99]⟩, .slice none 0 0] 33)) (.cells #[.int .i64 4, .string b, .slice (some ⟨w3.heap.size, 0, none⟩) 1 1] 33)) (.cells #[.int .i64 1, .int .i64 0, .string ⟨#[]⟩, .slice none 0 0, .slice (some ⟨w3.heap.size + 1, 0, none⟩) 1 1, .slice none 0 0] 28)) hb7
  have lD := blk_below (blk_alloc (blk_alloc (blk_alloc mD (.cells #[.int .i64 2, .string ⟨#[99]⟩, .slice none 0 0] 33)) (.cells #[.int .i64 4, .string b, .slice (some ⟨w3.heap.size, 0, none⟩) 1 1] 33)) (.cells #[.int .i64 1, .int .i64 0, .string ⟨#[]⟩, .slice none 0 0, .slice (some ⟨w3.heap.size + 1, 0, none⟩) 1 1, .slice none 0 0] 28)) hb7
  have hbq := bp2.trans (Below.mono hb7 bp2.size)
  clear c1 qC qL hb7 bp0 bp1 bp2 mS mD
  obtain ⟨z0, z1, z2, z3, z4, z5⟩ := box_cells lD
  have lX := blk_alloc lD (.cells #[.int .i64 8, .int .i64 lv, .string a, .slice (some ⟨w1.heap.size, 0, none⟩) 1 1, .slice none 0 0, .slice none 0 0] 28)
  obtain ⟨y0, y1, y2, y3, y4, y5⟩ := box_cells lX
  have lY := blk_alloc (blk_alloc lX (.cells #[.int .i64 8, .int .i64 0, .string a, .slice (some ⟨wq.heap.size + 1 + 1, 0, none⟩) 2 2, .slice none 0 0, .slice none 0 0] 28)) (.cells #[.string b, .string b] 9)
  obtain ⟨x0, x1, x2, x3, x4, x5⟩ := box_cells lY
  go_wp2_with fail
  have fS := (blk_alloc (blk_alloc (blk_alloc (blk_alloc (blk_alloc (blk_alloc lS (.cells #[.int .i64 8, .int .i64 lv, .string a, .slice (some ⟨w1.heap.size, 0, none⟩) 1 1, .slice none 0 0, .slice none 0 0] 28)) (.cells #[.int .i64 8, .int .i64 0, .string a, .slice (some ⟨wq.heap.size + 1 + 1, 0, none⟩) 2 2, .slice none 0 0, .slice none 0 0] 28)) (.cells #[.string b, .string b] 9)) (.cells #[.int .i64 8, .int .i64 0, .string a, .slice (some ⟨w1.heap.size, 0, none⟩) 1 1, .slice none 0 0, .slice (some ⟨wq.heap.size + 1 + 1 + 1 + 1, 0, none⟩) 1 1] 28)) (.cells #[.int .i64 3, .int .i64 0, .string ⟨#[]⟩, .slice none 0 0, .slice none 0 0, .slice none 0 0] 28)) (.cells #[.int .i64 8, .int .i64 lv, .string a, .slice (some ⟨w1.heap.size, 0, none⟩) 1 1, .slice none 0 0, .slice none 0 0] 28))
  have fY := (blk_alloc (blk_alloc (blk_alloc (blk_alloc (blk_newAt (g := wq.heap.size + 1) (.cells #[.int .i64 8, .int .i64 0, .string a, .slice (some ⟨wq.heap.size + 1 + 1, 0, none⟩) 2 2, .slice none 0 0, .slice none 0 0] 28) (tree_alloc wq (.cells #[.int .i64 8, .int .i64 lv, .string a, .slice (some ⟨w1.heap.size, 0, none⟩) 1 1, .slice none 0 0, .slice none 0 0] 28))) (.cells #[.string b, .string b] 9)) (.cells #[.int .i64 8, .int .i64 0, .string a, .slice (some ⟨w1.heap.size, 0, none⟩) 1 1, .slice none 0 0, .slice (some ⟨wq.heap.size + 1 + 1 + 1 + 1, 0, none⟩) 1 1] 28)) (.cells #[.int .i64 3, .int .i64 0, .string ⟨#[]⟩, .slice none 0 0, .slice none 0 0, .slice none 0 0] 28)) (.cells #[.int .i64 8, .int .i64 lv, .string a, .slice (some ⟨w1.heap.size, 0, none⟩) 1 1, .slice none 0 0, .slice none 0 0] 28))
  have fS2 := (blk_alloc (blk_alloc (blk_alloc (blk_newAt (w := ((wq.alloc (.cells #[.int .i64 8, .int .i64 lv, .string a, .slice (some ⟨w1.heap.size, 0, none⟩) 1 1, .slice none 0 0, .slice none 0 0] 28)).alloc (.cells #[.int .i64 8, .int .i64 0, .string a, .slice (some ⟨wq.heap.size + 1 + 1, 0, none⟩) 2 2, .slice none 0 0, .slice none 0 0] 28))) (g := wq.heap.size + 1 + 1) (.cells #[.string b, .string b] 9) (by simp only [tree_alloc])) (.cells #[.int .i64 8, .int .i64 0, .string a, .slice (some ⟨w1.heap.size, 0, none⟩) 1 1, .slice none 0 0, .slice (some ⟨wq.heap.size + 1 + 1 + 1 + 1, 0, none⟩) 1 1] 28)) (.cells #[.int .i64 3, .int .i64 0, .string ⟨#[]⟩, .slice none 0 0, .slice none 0 0, .slice none 0 0] 28)) (.cells #[.int .i64 8, .int .i64 lv, .string a, .slice (some ⟨w1.heap.size, 0, none⟩) 1 1, .slice none 0 0, .slice none 0 0] 28))
  have fZ := (blk_alloc (blk_alloc (blk_newAt (w := (((wq.alloc (.cells #[.int .i64 8, .int .i64 lv, .string a, .slice (some ⟨w1.heap.size, 0, none⟩) 1 1, .slice none 0 0, .slice none 0 0] 28)).alloc (.cells #[.int .i64 8, .int .i64 0, .string a, .slice (some ⟨wq.heap.size + 1 + 1, 0, none⟩) 2 2, .slice none 0 0, .slice none 0 0] 28)).alloc (.cells #[.string b, .string b] 9))) (g := wq.heap.size + 1 + 1 + 1) (.cells #[.int .i64 8, .int .i64 0, .string a, .slice (some ⟨w1.heap.size, 0, none⟩) 1 1, .slice none 0 0, .slice (some ⟨wq.heap.size + 1 + 1 + 1 + 1, 0, none⟩) 1 1] 28) (by simp only [tree_alloc])) (.cells #[.int .i64 3, .int .i64 0, .string ⟨#[]⟩, .slice none 0 0, .slice none 0 0, .slice none 0 0] 28)) (.cells #[.int .i64 8, .int .i64 lv, .string a, .slice (some ⟨w1.heap.size, 0, none⟩) 1 1, .slice none 0 0, .slice none 0 0] 28))
  have fK := (blk_alloc (blk_newAt (w := ((((wq.alloc (.cells #[.int .i64 8, .int .i64 lv, .string a, .slice (some ⟨w1.heap.size, 0, none⟩) 1 1, .slice none 0 0, .slice none 0 0] 28)).alloc (.cells #[.int .i64 8, .int .i64 0, .string a, .slice (some ⟨wq.heap.size + 1 + 1, 0, none⟩) 2 2, .slice none 0 0, .slice none 0 0] 28)).alloc (.cells #[.string b, .string b] 9)).alloc (.cells #[.int .i64 8, .int .i64 0, .string a, .slice (some ⟨w1.heap.size, 0, none⟩) 1 1, .slice none 0 0, .slice (some ⟨wq.heap.size + 1 + 1 + 1 + 1, 0, none⟩) 1 1] 28))) (g := wq.heap.size + 1 + 1 + 1 + 1) (.cells #[.int .i64 3, .int .i64 0, .string ⟨#[]⟩, .slice none 0 0, .slice none 0 0, .slice none 0 0] 28) (by simp only [tree_alloc])) (.cells #[.int .i64 8, .int .i64 lv, .string a, .slice (some ⟨w1.heap.size, 0, none⟩) 1 1, .slice none 0 0, .slice none 0 0] 28))
  have f6 := blk_newAt (w := (((((wq.alloc (.cells #[.int .i64 8, .int .i64 lv, .string a, .slice (some ⟨w1.heap.size, 0, none⟩) 1 1, .slice none 0 0, .slice none 0 0] 28)).alloc (.cells #[.int .i64 8, .int .i64 0, .string a, .slice (some ⟨wq.heap.size + 1 + 1, 0, none⟩) 2 2, .slice none 0 0, .slice none 0 0] 28)).alloc (.cells #[.string b, .string b] 9)).alloc (.cells #[.int .i64 8, .int .i64 0, .string a, .slice (some ⟨w1.heap.size, 0, none⟩) 1 1, .slice none 0 0, .slice (some ⟨wq.heap.size + 1 + 1 + 1 + 1, 0, none⟩) 1 1] 28)).alloc (.cells #[.int .i64 3, .int .i64 0, .string ⟨#[]⟩, .slice none 0 0, .slice none 0 0, .slice none 0 0] 28))) (g := wq.heap.size + 1 + 1 + 1 + 1 + 1) (.cells #[.int .i64 8, .int .i64 lv, .string a, .slice (some ⟨w1.heap.size, 0, none⟩) 1 1, .slice none 0 0, .slice none 0 0] 28) (by simp only [tree_alloc])
  have ba1 := Below.alloc hbq (Below.size hbq) (.cells #[.int .i64 8, .int .i64 lv, .string a, .slice (some ⟨w1.heap.size, 0, none⟩) 1 1, .slice none 0 0, .slice none 0 0] 28)
  have ba2 := Below.alloc ba1 (Below.size ba1) (.cells #[.int .i64 8, .int .i64 0, .string a, .slice (some ⟨wq.heap.size + 1 + 1, 0, none⟩) 2 2, .slice none 0 0, .slice none 0 0] 28)
  have ba3 := Below.alloc ba2 (Below.size ba2) (.cells #[.string b, .string b] 9)
  have ba4 := Below.alloc ba3 (Below.size ba3) (.cells #[.int .i64 8, .int .i64 0, .string a, .slice (some ⟨w1.heap.size, 0, none⟩) 1 1, .slice none 0 0, .slice (some ⟨wq.heap.size + 1 + 1 + 1 + 1, 0, none⟩) 1 1] 28)
  have ba5 := Below.alloc ba4 (Below.size ba4) (.cells #[.int .i64 3, .int .i64 0, .string ⟨#[]⟩, .slice none 0 0, .slice none 0 0, .slice none 0 0] 28)
  have ba6 := Below.alloc ba5 (Below.size ba5) (.cells #[.int .i64 8, .int .i64 lv, .string a, .slice (some ⟨w1.heap.size, 0, none⟩) 1 1, .slice none 0 0, .slice none 0 0] 28)
  have c1 := rX ((((((wq.alloc (.cells #[.int .i64 8, .int .i64 lv, .string a, .slice (some ⟨w1.heap.size, 0, none⟩) 1 1, .slice none 0 0, .slice none 0 0] 28)).alloc (.cells #[.int .i64 8, .int .i64 0, .string a, .slice (some ⟨wq.heap.size + 1 + 1, 0, none⟩) 2 2, .slice none 0 0, .slice none 0 0] 28)).alloc (.cells #[.string b, .string b] 9)).alloc (.cells #[.int .i64 8, .int .i64 0, .string a, .slice (some ⟨w1.heap.size, 0, none⟩) 1 1, .slice none 0 0, .slice (some ⟨wq.heap.size + 1 + 1 + 1 + 1, 0, none⟩) 1 1] 28)).alloc (.cells #[.int .i64 3, .int .i64 0, .string ⟨#[]⟩, .slice none 0 0, .slice none 0 0, .slice none 0 0] 28)).alloc (.cells #[.int .i64 8, .int .i64 lv, .string a, .slice (some ⟨w1.heap.size, 0, none⟩) 1 1, .slice none 0 0, .slice none 0 0] 28)) (some ⟨wq.heap.size + 1 + 1 + 1 + 1 + 1, 0, none⟩) ba6 (one_blk (c3 := 1) (c4 := 0) (c5 := 0) (l3 := [b]) (l4 := []) (l5 := []) f6 (one_str fS) (Nat.le_refl _) (nil_C _ _ _) (Nat.le_refl _) (nil_C _ _ _) (Nat.le_refl _))
  refine c1.mono ?_
  rintro e v1 ⟨rfl, hc1⟩
  have gS := blk_below fS hc1
  have gY := blk_below fY hc1
  have gS2 := blk_below fS2 hc1
  have gZ := blk_below fZ hc1
  have gK := blk_below fK hc1
  have hbv1 := ba6.trans (Below.mono hc1 ba6.size)
  clear c1 fS fY fS2 fZ fK f6 ba1 ba2 ba3 ba4 ba5 ba6 hc1 x0 x1 x2 x3 x4 x5 y0 y1 y2 y3 y4 y5 z0 z1 z2 z3 z4 z5 lX lY lD lS
  obtain ⟨z0, z1, z2, z3, z4, z5⟩ := box_cells gY
  go_wp2_with fail
  have bv := Below.alloc hbv1 hbv1.size (.cells #[.int .i64 8, .int .i64 0, .string a, .slice (some ⟨wq.heap.size + 1 + 1, 0, none⟩) 2 2, .slice none 0 0, .slice none 0 0] 28)
  have c2 := rY (v1.alloc (.cells #[.int .i64 8, .int .i64 0, .string a, .slice (some ⟨wq.heap.size + 1 + 1, 0, none⟩) 2 2, .slice none 0 0, .slice none 0 0] 28)) (some ⟨v1.heap.size, 0, none⟩) bv (one_blk (c3 := 2) (c4 := 0) (c5 := 0) (l3 := [b, b]) (l4 := []) (l5 := []) (blk_new v1 (.cells #[.int .i64 8, .int .i64 0, .string a, .slice (some ⟨wq.heap.size + 1 + 1, 0, none⟩) 2 2, .slice none 0 0, .slice none 0 0] 28)) (two_str (blk_alloc gS2 (.cells #[.int .i64 8, .int .i64 0, .string a, .slice (some ⟨wq.heap.size + 1 + 1, 0, none⟩) 2 2, .slice none 0 0, .slice none 0 0] 28))) (Nat.le_refl _) (nil_C _ _ _) (Nat.le_refl _) (nil_C _ _ _) (Nat.le_refl _))
  refine c2.mono ?_
  rintro e v2 ⟨rfl, hc2⟩
  have hS := blk_below (blk_alloc gS (.cells #[.int .i64 8, .int .i64 0, .string a, .slice (some ⟨wq.heap.size + 1 + 1, 0, none⟩) 2 2, .slice none 0 0, .slice none 0 0] 28)) hc2
  have hZ := blk_below (blk_alloc gZ (.cells #[.int .i64 8, .int .i64 0, .string a, .slice (some ⟨wq.heap.size + 1 + 1, 0, none⟩) 2 2, .slice none 0 0, .slice none 0 0] 28)) hc2
  have hK := blk_below (blk_alloc gK (.cells #[.int .i64 8, .int .i64 0, .string a, .slice (some ⟨wq.heap.size + 1 + 1, 0, none⟩) 2 2, .slice none 0 0, .slice none 0 0] 28)) hc2
  have hbv2 := bv.trans (Below.mono hc2 bv.size)
  clear c2 bv hc2 gS gY gS2 gZ gK z0 z1 z2 z3 z4 z5
  obtain ⟨z0, z1, z2, z3, z4, z5⟩ := box_cells hZ
  go_wp2_with fail
  have bz := Below.alloc hbv2 hbv2.size (.cells #[.int .i64 8, .int .i64 0, .string a, .slice (some ⟨w1.heap.size, 0, none⟩) 1 1, .slice none 0 0, .slice (some ⟨wq.heap.size + 1 + 1 + 1 + 1, 0, none⟩) 1 1] 28)
  have c3 := rZ (v2.alloc (.cells #[.int .i64 8, .int .i64 0, .string a, .slice (some ⟨w1.heap.size, 0, none⟩) 1 1, .slice none 0 0, .slice (some ⟨wq.heap.size + 1 + 1 + 1 + 1, 0, none⟩) 1 1] 28)) (some ⟨v2.heap.size, 0, none⟩) bz (one_blk (c3 := 1) (c4 := 0) (c5 := 1) (l3 := [b]) (l4 := []) (l5 := [⟨3, 0, ⟨#[]⟩, [], [], []⟩]) (blk_new v2 (.cells #[.int .i64 8, .int .i64 0, .string a, .slice (some ⟨w1.heap.size, 0, none⟩) 1 1, .slice none 0 0, .slice (some ⟨wq.heap.size + 1 + 1 + 1 + 1, 0, none⟩) 1 1] 28)) (one_str (blk_alloc hS (.cells #[.int .i64 8, .int .i64 0, .string a, .slice (some ⟨w1.heap.size, 0, none⟩) 1 1, .slice none 0 0, .slice (some ⟨wq.heap.size + 1 + 1 + 1 + 1, 0, none⟩) 1 1] 28))) (Nat.le_refl _) (nil_C _ _ _) (Nat.le_refl _) (one_blk (c3 := 0) (c4 := 0) (c5 := 0) (l3 := []) (l4 := []) (l5 := []) (blk_alloc hK (.cells #[.int .i64 8, .int .i64 0, .string a, .slice (some ⟨w1.heap.size, 0, none⟩) 1 1, .slice none 0 0, .slice (some ⟨wq.heap.size + 1 + 1 + 1 + 1, 0, none⟩) 1 1] 28)) (nil_C _ _ _) (Nat.le_refl _) (nil_C _ _ _) (Nat.le_refl _) (nil_C _ _ _) (Nat.le_refl _)) (Nat.le_refl _))
  refine c3.mono ?_
  rintro e v3 ⟨rfl, hc3⟩
  have hbv3 := bz.trans (Below.mono hc3 bz.size)
  clear c3 bz hc3 hS hZ hK z0 z1 z2 z3 z4 z5
  go_wp2_with fail
  go_ret
  exact ⟨rfl, hbv3⟩
set_option maxHeartbeats 8000000 in
set_option maxRecDepth 1000000 in
theorem lab_big (a b : ByteArray) (lv : Int) (w : World) (hT : Tabs w) (cW : ∀ W, Tabs W → Calls Tryd.prog 7 #[] W fun e w' => e = .returned (.bool true) ∧ Below W.heap.size W w') (ha : a.size ≤ 140737488351232) (hb : b.size ≤ 140737488351232) (h : 2000 < a.size + b.size) :
    Calls Tryd.prog 6 #[.string a, .string b, .int .i64 lv] w fun e w' => e = .returned (.bool true) ∧ Below w.heap.size w w' := by
  have hg : decide ((a.size : Int) + (b.size : Int) > 2000) = true := decide_eq_true (by omega)
  have hw : IntKind.i64.wrap ((a.size : Int) + (b.size : Int)) = (a.size : Int) + (b.size : Int) := wrap_small _ (by omega) (by omega)
  clear h
  go_enter Tryd.func6, Tryd.ntmps6
  go_wp2_with (first | (go_at_call 7; refine (cW _ (Tabs.at hT hb1)).mono ?_; rintro e w2 ⟨rfl, hb2⟩) | (go_at_call 7; refine (cW _ hT).mono ?_; rintro e w1 ⟨rfl, hb1⟩))
  go_ret
  exact ⟨rfl, hb1.trans (Below.mono hb2 hb1.size)⟩
theorem right_of (w : World) (hT : Tabs w) (x : BK) (hw : wtBL [x] ≤ 1000000) (r : Bool) (h : rightB [x] = r) : RightOk w [x] r := by
  subst h
  exact fun W A hW hC => tree_Right.calls (2 * wtBL [x] + 2) A 1 [x] _ W (Tabs.at hT hW) hC (Nat.le_refl _) (tree_Right_eq [x] _ hw (by omega))
theorem lab_all (a b : ByteArray) (lv : Int) (w : World) (hT : Tabs w) (ha : a.size ≤ 140737488351232) (hb : b.size ≤ 140737488351232) :
    Calls Tryd.prog 6 #[.string a, .string b, .int .i64 lv] w fun e w' => e = .returned (.bool true) ∧ Below w.heap.size w w' := by
  have cW : ∀ W, Tabs W → Calls Tryd.prog 7 #[] W fun e w' => e = .returned (.bool true) ∧ Below W.heap.size W w' := fun W hW => emendationlaw10_awake.calls 21 true W hW (awake10 21 (by omega))
  by_cases h : a.size + b.size ≤ 2000
  · have wd : ∀ k lv s ls c, wtBL [(⟨k, lv, s, ls, [], c⟩ : BK)] = 1 + s.size + wtT ls + wtBL c := fun k lv s ls c => by rw [wtBL_cons, wtB_eq]; simp only [wtL, wtBL]; omega
    have w3 : wtBL [(⟨3, 0, ⟨#[]⟩, [], [], []⟩ : BK)] = 1 := by rw [wd]; rfl
    have wp : wtBL [(⟨1, 0, ⟨#[]⟩, [], [⟨4, b, [⟨2, ⟨#[99]⟩, []⟩]⟩], []⟩ : BK)] ≤ 1000000 := by
      rw [wtBL_cons, wtB_eq]
      simp only [wtV_eq, wtL, wtBL, wtT]
      have e1 : (⟨#[]⟩ : ByteArray).size = 0 := rfl
      have e2 : (⟨#[99]⟩ : ByteArray).size = 1 := rfl
      omega
    have hD := fun lv ls c => right_def lv a ls c (by by_cases h : c = [] <;> simp [h])
    have e1 := hD 0 [b] []
    have eX := hD lv [b] []
    have eY := hD 0 [b, b] []
    have eZ := hD 0 [b] [⟨3, 0, ⟨#[]⟩, [], [], []⟩]
    have eP := right_para b (by omega)
    have cL : Says w 12 #[.string a] (.bool (labelV (L a))) := fun W hW => tree_Label.calls a _ W (Tabs.at hT hW) (tree_Label_eq a (by omega))
    have hgd : ([b] : List ByteArray).getD 0 ByteArray.empty = b := rfl
    rw [hgd] at e1 eX
    have rY : RightOk w [⟨8, 0, a, [b, b], [], []⟩] false := right_of w hT _ (by rw [wd]; simp only [wtT, wtBL]; omega) _ (by rw [eY]; simp)
    have rZ : RightOk w [⟨8, 0, a, [b], [], [⟨3, 0, ⟨#[]⟩, [], [], []⟩]⟩] false := right_of w hT _ (by rw [wd, w3]; simp only [wtT]; omega) _ (by rw [eZ]; rfl)
    have r1 := right_of w hT ⟨8, 0, a, [b], [], []⟩ (by rw [wd]; simp only [wtT, wtBL]; omega) _ e1
    have rX := right_of w hT ⟨8, lv, a, [b], [], []⟩ (by rw [wd]; simp only [wtT, wtBL]; omega) _ eX
    have rP := right_of w hT _ wp _ eP
    have hmt : b.toList.isEmpty = true → destL (L b) = false := by
      intro q
      have : b.toList = L b := L_toList b
      rw [this] at q
      unfold destL
      rw [q]
      rfl
    clear e1 eX eY eZ eP hD wd w3 wp hgd
    simp only [decide_true, Bool.true_and, List.isEmpty_nil, List.length_singleton] at r1 rX
    cases hp : labelV (L a) with
    | false =>
      rw [hp] at r1 rX cL
      rw [Bool.false_and] at r1
      rw [Bool.false_and, Bool.and_false] at rX
      exact lab_p a b lv w hT cW h r1 cL rX rY rZ
    | true =>
      rw [hp] at r1 rX cL
      rw [Bool.true_and] at r1 rX
      cases hE : b.toList.isEmpty with
      | true =>
        rw [hmt hE] at r1 rX
        rw [Bool.and_false] at rX
        exact lab_mt a b lv w hT cW h r1 cL hE rX rY rZ
      | false =>
        cases hz : destL (L b) with
        | false =>
          rw [hz] at r1 rX rP
          rw [Bool.and_false] at rX
          exact lab_no a b lv w hT cW h r1 cL hE rP rX rY rZ
        | true =>
          rw [hz] at r1 rX rP
          rw [Bool.and_true] at rX
          exact lab_yes a b lv w hT cW h r1 cL hE (decide (lv = 0)) rfl rP rX rY rZ
  · exact lab_big a b lv w hT cW ha hb (by omega)
end Go.Proofs.YtbbkjdcpmhpkjaaDoor.G
namespace Go.Proofs.YtbbkjdcpmhpkjaaDoor.X
open Go.RowKit Go.Lib Go.Proofs Go.Proofs.YtbbkjdcpmhpkjaaDoor.G Go.Proofs.YtbbkjdcpmhpkjaaDoor.Pure Go.Proofs.YtbbkjdcpmhpkjaaDoorW.PrintWords Go.Proofs.YtbbkjdcpmhpkjaaDoorW.PrintLast Go.Proofs.YtbbkjdcpmhpkjaaDoorW.PrintMore
/-- TreeLabels, of texts that can be. -/
def emendationlaw10_TreeLabels.f (a0 a1 : ByteArray) (a2 : Int) : Option Bool := if a0.size ≤ 140737488351232 ∧ a1.size ≤ 140737488351232 then some true else none
theorem emendationlaw10_TreeLabels.calls (a0 : ByteArray) (a1 : ByteArray) (a2 : Int) (r : Bool) (w : World) (hT : Tabs w) (h : emendationlaw10_TreeLabels.f a0 a1 a2 = some r) :
  Calls Tryd.prog 6 #[.string a0, .string a1, .int .i64 a2] w fun e w' => e = .returned (.bool r) ∧ Below w.heap.size w w' := by
  unfold emendationlaw10_TreeLabels.f at h
  by_cases hs : a0.size ≤ 140737488351232 ∧ a1.size ≤ 140737488351232
  · rw [if_pos hs] at h
    obtain rfl := Option.some.inj h
    exact lab_all a0 a1 a2 w hT hs.1 hs.2
  · rw [if_neg hs] at h; cases h
end Go.Proofs.YtbbkjdcpmhpkjaaDoor.X
