/- Words for the laws of this seat, several texts behind one another. -/
import Derived.Test.YtbbkjdcpmhpkjaaDoorX0
import Derived.Laws.StructEq
import Derived.Deep.QuietTactic
import Derived.BigQuiet
import Derived.BigCall
import Derived.Outline
import Derived.Test.YtbbkjdcpmhpkjaaDoorX2
import Derived.Test.YtbbkjdcpmhpkjaaDoorPAll
import Derived.Test.YtbbkjdcpmhpkjaaDoorGivenTabs
import Derived.Deep.LoopGhost
import Derived.Test.YtbbkjdcpmhpkjaaDoorGivenRight
import Derived.Lib.IndexAny
/-! GivenTreeE -/
namespace Go.Proofs.YtbbkjdcpmhpkjaaDoor.G
open Go.RowKit Go.Proofs.YtbbkjdcpmhpkjaaDoor.X Go.Proofs.YtbbkjdcpmhpkjaaDoorW.PrintWords
set_option maxRecDepth 100000
theorem ite_beq {x y b : Bool} {A : Result Bool} {w : World} (h : A = .ok b w) : (if x = y then A else .ok false w) = .ok (x == y && b) w := by
  subst h
  cases x <;> cases y <;> rfl
theorem ite_last {x y : Bool} {w : World} : (if x = y then Result.ok true w else .ok false w) = Result.ok (x == y) w := by
  cases x <;> cases y <;> rfl
theorem eqHas (x1 x2 x3 x4 x5 y1 y2 y3 y4 y5 : Bool) (w : World) : (Op.equalIn 10000 50 (.agg #[.bool x1, .bool x2, .bool x3, .bool x4, .bool x5]) (.agg #[.bool y1, .bool y2, .bool y3, .bool y4, .bool y5])).run Tryd.prog w = .ok ((x1 == y1) && ((x2 == y2) && ((x3 == y3) && ((x4 == y4) && (x5 == y5))))) w := by
  show (Op.equalIn (9998 + 2) 50 _ _).run Tryd.prog w = _
  have h1 : Tryd.prog.underlying 50 = some (.struct (Tryd.prog.fieldsOf 50)) := by simp [Program.fieldsOf, Tryd.underlying50]
  rw [run_equalIn_struct (P := Tryd.prog) w (9998 + 1) 50 _ _ h1 (by kernel_rfl)]
  simp only [Program.fieldsOf, Tryd.underlying50]
  go_simp
  exact ite_beq (ite_beq (ite_beq (ite_beq ite_last)))
end Go.Proofs.YtbbkjdcpmhpkjaaDoor.G
/-! GivenTreeL -/
set_option linter.unusedVariables false
namespace Go.Proofs.YtbbkjdcpmhpkjaaDoor.G
open Go.RowKit Go.Lib Go.Proofs Go.Proofs.YtbbkjdcpmhpkjaaDoor.X Go.Proofs.YtbbkjdcpmhpkjaaDoorW.PrintWords Go.Proofs.YtbbkjdcpmhpkjaaDoorW.PrintLast Go.Proofs.YtbbkjdcpmhpkjaaDoorW.PrintMore
section
variable (lv : Int) (s : ByteArray) (A3 : Option Addr) (n3 c3 : Nat) (A4 : Option Addr) (n4 c4 : Nat) (A5 : Option Addr) (n5 c5 : Nat) (w : World) (b1 b2 b3 b4 b5 : Bool)
abbrev blkV (k : Int) : Value := .agg #[.int .i64 k, .int .i64 lv, .string s, .slice A3 n3 c3, .slice A4 n4 c4, .slice A5 n5 c5]
def OfIs (k : Int) : Prop := ∀ W, Below w.heap.size w W → Calls Tryd.prog 26 #[.agg #[.int .i64 k, .int .i64 lv, .string s, .slice A3 n3 c3, .slice A4 n4 c4, .slice A5 n5 c5]] W fun e w' => e = .returned (.agg #[.bool b1, .bool b2, .bool b3, .bool b4, .bool b5]) ∧ Below W.heap.size W w'
def Says (f : FuncId) (args : Array Value) (v : Value) : Prop := ∀ W, Below w.heap.size w W → Calls Tryd.prog f args W fun e w' => e = .returned v ∧ Below W.heap.size W w'
theorem below_two {w w1 : World} {o o2 : Obj} (hb1 : Below (w.alloc o).heap.size (w.alloc o) w1) : Below w.heap.size w (w1.alloc o2) :=
  have h := ((Below.refl _ w).alloc (Nat.le_refl _) o).trans (Below.mono hb1 ((Below.refl _ w).alloc (Nat.le_refl _) o).size)
  h.alloc h.size o2
set_option maxHeartbeats 8000000 in
set_option maxRecDepth 1000000 in
theorem leaf_rule (cOf : OfIs lv s A3 n3 c3 A4 n4 c4 A5 n5 c5 w b1 b2 b3 b4 b5 3) :
    Calls Tryd.prog 25 #[.agg #[.int .i64 3, .int .i64 lv, .string s, .slice A3 n3 c3, .slice A4 n4 c4, .slice A5 n5 c5]] w fun e w' => e = .returned (.bool (!b1 && (!b2 && (!b3 && (!b4 && !b5))))) ∧ Below w.heap.size w w' := by
  have hB : ∀ o, Below w.heap.size w (w.alloc o) := fun o => (Below.refl _ w).alloc (Nat.le_refl _) o
  have hE := eqHas
  go_enter Tryd.func25, Tryd.ntmps25
  go_wp2_with (go_at_call 26; refine (cOf _ (hB _)).mono ?_; rintro e w1 ⟨rfl, hb1⟩; have hk1 := blk_below (blk_new w _) hb1; have z0 : ∀ o', (w1.alloc o').cell? ⟨w.heap.size, 0, none⟩ = some (.int .i64 3) := fun o' => (blk_cell (blk_alloc hk1 o') 0).trans rfl)
  go_ret
  exact ⟨by first | rfl | (simp; done), below_two hb1⟩
set_option maxHeartbeats 8000000 in
set_option maxRecDepth 1000000 in
/-- A kind that is none. -/
theorem leaf_none (k : Int) (h1 : k ≠ 1) (h2 : k ≠ 2) (h3 : k ≠ 3) (h4 : k ≠ 4) (h8 : k ≠ 8) (cOf : OfIs lv s A3 n3 c3 A4 n4 c4 A5 n5 c5 w b1 b2 b3 b4 b5 k) :
    Calls Tryd.prog 25 #[.agg #[.int .i64 k, .int .i64 lv, .string s, .slice A3 n3 c3, .slice A4 n4 c4, .slice A5 n5 c5]] w fun e w' => e = .returned (.bool false) ∧ Below w.heap.size w w' := by
  have hB : ∀ o, Below w.heap.size w (w.alloc o) := fun o => (Below.refl _ w).alloc (Nat.le_refl _) o
  have e1 : (k == 1) = false := beq_eq_false_iff_ne.2 h1
  have e2 : (k == 2) = false := beq_eq_false_iff_ne.2 h2
  have e3 : (k == 3) = false := beq_eq_false_iff_ne.2 h3
  have e4 : (k == 4) = false := beq_eq_false_iff_ne.2 h4
  have e8 : (k == 8) = false := beq_eq_false_iff_ne.2 h8
  clear h1 h2 h3 h4 h8
  go_enter Tryd.func25, Tryd.ntmps25
  go_wp2_with (go_at_call 26; refine (cOf _ (hB _)).mono ?_; rintro e w1 ⟨rfl, hb1⟩; have hk1 := blk_below (blk_new w _) hb1; have z0 : ∀ o', (w1.alloc o').cell? ⟨w.heap.size, 0, none⟩ = some (.int .i64 k) := fun o' => (blk_cell (blk_alloc hk1 o') 0).trans rfl)
  go_ret
  exact ⟨rfl, below_two hb1⟩
set_option maxHeartbeats 8000000 in
set_option maxRecDepth 1000000 in
theorem leaf_para (R : Bool) (cOf : OfIs lv s A3 n3 c3 A4 n4 c4 A5 n5 c5 w b1 b2 b3 b4 b5 1) (cR : Says w 40 #[.slice A4 n4 c4] (.bool R)) :
    Calls Tryd.prog 25 #[.agg #[.int .i64 1, .int .i64 lv, .string s, .slice A3 n3 c3, .slice A4 n4 c4, .slice A5 n5 c5]] w fun e w' => e = .returned (.bool ((!b1 && (!b2 && (!b3 && (b4 && !b5)))) && R)) ∧ Below w.heap.size w w' := by
  have hB : ∀ o, Below w.heap.size w (w.alloc o) := fun o => (Below.refl _ w).alloc (Nat.le_refl _) o
  have hE := eqHas
  go_enter Tryd.func25, Tryd.ntmps25
  cases hb : (!b1 && (!b2 && (!b3 && (b4 && !b5)))) with
  | false =>
    go_wp2_with (go_at_call 26; refine (cOf _ (hB _)).mono ?_; rintro e w1 ⟨rfl, hb1⟩; have hk1 := blk_below (blk_new w _) hb1; have z0 : ∀ o', (w1.alloc o').cell? ⟨w.heap.size, 0, none⟩ = some (.int .i64 1) := fun o' => (blk_cell (blk_alloc hk1 o') 0).trans rfl)
    go_ret
    exact ⟨by first | rfl | (simp; done), below_two hb1⟩
  | true =>
    go_wp2_with (first | (go_at_call 26; refine (cOf _ (hB _)).mono ?_; rintro e w1 ⟨rfl, hb1⟩; have hk1 := blk_below (blk_new w _) hb1; have z0 : ∀ o', (w1.alloc o').cell? ⟨w.heap.size, 0, none⟩ = some (.int .i64 1) := (fun o' => (blk_cell (blk_alloc hk1 o') 0).trans rfl); have z4 : ∀ o', (w1.alloc o').cell? ⟨w.heap.size, 4, none⟩ = some (.slice A4 n4 c4) := (fun o' => (blk_cell (blk_alloc hk1 o') 4).trans rfl)) | (go_at_call 40; refine (cR _ (below_two hb1)).mono ?_; rintro e w2 ⟨rfl, hb2⟩))
    go_ret
    exact ⟨by first | rfl | (simp; done), (below_two hb1).trans (Below.mono hb2 (below_two hb1).size)⟩
set_option maxHeartbeats 8000000 in
set_option maxRecDepth 1000000 in
theorem leaf_def (t u : Bool) (b0 : ByteArray) (cOf : OfIs lv s A3 n3 c3 A4 n4 c4 A5 n5 c5 w b1 b2 b3 b4 b5 8) (cL : Says w 12 #[.string s] (.bool t))
    (h1 : n3 = 1 → ∃ ad, A3 = some ad ∧ w.cell? ad = some (.string b0)) (cD : Says w 45 #[.string b0] (.bool u)) :
    Calls Tryd.prog 25 #[.agg #[.int .i64 8, .int .i64 lv, .string s, .slice A3 n3 c3, .slice A4 n4 c4, .slice A5 n5 c5]] w fun e w' => e = .returned (.bool ((!b1 && (b2 && (b3 && (!b4 && !b5)))) && (t && (decide (n3 = 1) && u)))) ∧ Below w.heap.size w w' := by
  have hB : ∀ o, Below w.heap.size w (w.alloc o) := fun o => (Below.refl _ w).alloc (Nat.le_refl _) o
  have hE := eqHas
  cases hb : (!b1 && (b2 && (b3 && (!b4 && !b5)))) with
  | false =>
    go_enter Tryd.func25, Tryd.ntmps25
    go_wp2_with (go_at_call 26; refine (cOf _ (hB _)).mono ?_; rintro e w1 ⟨rfl, hb1⟩; have hk1 := blk_below (blk_new w _) hb1; have z0 : ∀ o', (w1.alloc o').cell? ⟨w.heap.size, 0, none⟩ = some (.int .i64 8) := (fun o' => (blk_cell (blk_alloc hk1 o') 0).trans rfl); have z2 : ∀ o', (w1.alloc o').cell? ⟨w.heap.size, 2, none⟩ = some (.string s) := (fun o' => (blk_cell (blk_alloc hk1 o') 2).trans rfl); have z3 : ∀ o', (w1.alloc o').cell? ⟨w.heap.size, 3, none⟩ = some (.slice A3 n3 c3) := (fun o' => (blk_cell (blk_alloc hk1 o') 3).trans rfl))
    go_ret
    exact ⟨by first | rfl | (simp; done), below_two hb1⟩
  | true =>
    cases t with
    | false =>
      go_enter Tryd.func25, Tryd.ntmps25
      go_wp2_with (first | (go_at_call 26; refine (cOf _ (hB _)).mono ?_; rintro e w1 ⟨rfl, hb1⟩; have hk1 := blk_below (blk_new w _) hb1; have z0 : ∀ o', (w1.alloc o').cell? ⟨w.heap.size, 0, none⟩ = some (.int .i64 8) := (fun o' => (blk_cell (blk_alloc hk1 o') 0).trans rfl); have z2 : ∀ o', (w1.alloc o').cell? ⟨w.heap.size, 2, none⟩ = some (.string s) := (fun o' => (blk_cell (blk_alloc hk1 o') 2).trans rfl); have z3 : ∀ o', (w1.alloc o').cell? ⟨w.heap.size, 3, none⟩ = some (.slice A3 n3 c3) := (fun o' => (blk_cell (blk_alloc hk1 o') 3).trans rfl)) | (go_at_call 12; refine (cL _ (below_two hb1)).mono ?_; rintro e w2 ⟨rfl, hb2⟩))
      go_ret
      exact ⟨by first | rfl | (simp; done), (below_two hb1).trans (Below.mono hb2 (below_two hb1).size)⟩
    | true =>
      by_cases hn : n3 = 1
      · obtain ⟨ad, rfl, hc⟩ := h1 hn
        subst hn
        have hl := World.block_lt_of_cell? w _ hc
        clear h1
        go_enter Tryd.func25, Tryd.ntmps25
        go_wp2_with (first | (go_at_call 26; refine (cOf _ (hB _)).mono ?_; rintro e w1 ⟨rfl, hb1⟩; have hk1 := blk_below (blk_new w _) hb1; have z0 : ∀ o', (w1.alloc o').cell? ⟨w.heap.size, 0, none⟩ = some (.int .i64 8) := (fun o' => (blk_cell (blk_alloc hk1 o') 0).trans rfl); have z2 : ∀ o', (w1.alloc o').cell? ⟨w.heap.size, 2, none⟩ = some (.string s) := (fun o' => (blk_cell (blk_alloc hk1 o') 2).trans rfl); have z3 : ∀ o', (w1.alloc o').cell? ⟨w.heap.size, 3, none⟩ = some (.slice (some ad) 1 c3) := (fun o' => (blk_cell (blk_alloc hk1 o') 3).trans rfl)) | (go_at_call 12; refine (cL _ (below_two hb1)).mono ?_; rintro e w2 ⟨rfl, hb2⟩; have hk2 := blk_below (blk_alloc hk1 _) hb2; have hb3 := (below_two hb1).trans (Below.mono hb2 (below_two hb1).size); have y3 : w2.cell? ⟨w.heap.size, 3, none⟩ = some (.slice (some ad) 1 c3) := (blk_cell hk2 3).trans rfl; have y9 : w2.cell? ad = some (.string b0) := (hb3.cell hl).trans hc) | (go_at_call 45; refine (cD _ hb3).mono ?_; rintro e w3 ⟨rfl, hb4⟩))
        go_ret
        exact ⟨by first | rfl | (simp; done), hb3.trans (Below.mono hb4 hb3.size)⟩
      · have hd : ((n3 : Int) == 1) = false := beq_eq_false_iff_ne.2 (by omega)
        have hd2 : (n3 == 1) = false := beq_eq_false_iff_ne.2 hn
        have hd3 : decide (n3 = 1) = false := decide_eq_false hn
        rw [hd3]
        clear h1
        go_enter Tryd.func25, Tryd.ntmps25
        go_wp2_with (first | (go_at_call 26; refine (cOf _ (hB _)).mono ?_; rintro e w1 ⟨rfl, hb1⟩; have hk1 := blk_below (blk_new w _) hb1; have z0 : ∀ o', (w1.alloc o').cell? ⟨w.heap.size, 0, none⟩ = some (.int .i64 8) := (fun o' => (blk_cell (blk_alloc hk1 o') 0).trans rfl); have z2 : ∀ o', (w1.alloc o').cell? ⟨w.heap.size, 2, none⟩ = some (.string s) := (fun o' => (blk_cell (blk_alloc hk1 o') 2).trans rfl); have z3 : ∀ o', (w1.alloc o').cell? ⟨w.heap.size, 3, none⟩ = some (.slice A3 n3 c3) := (fun o' => (blk_cell (blk_alloc hk1 o') 3).trans rfl)) | (go_at_call 12; refine (cL _ (below_two hb1)).mono ?_; rintro e w2 ⟨rfl, hb2⟩; have hk2 := blk_below (blk_alloc hk1 _) hb2; have y3 : w2.cell? ⟨w.heap.size, 3, none⟩ = some (.slice A3 n3 c3) := (blk_cell hk2 3).trans rfl))
        go_ret
        exact ⟨by first | rfl | (simp; done), (below_two hb1).trans (Below.mono hb2 (below_two hb1).size)⟩
set_option maxHeartbeats 8000000 in
set_option maxRecDepth 1000000 in
theorem leaf_head (R : Bool) (m : Int) (cOf : OfIs lv s A3 n3 c3 A4 n4 c4 A5 n5 c5 w b1 b2 b3 b4 b5 2) (cN : Says w 41 #[.slice A4 n4 c4] (.int .i64 m)) (cR : Says w 40 #[.slice A4 n4 c4] (.bool R)) :
    Calls Tryd.prog 25 #[.agg #[.int .i64 2, .int .i64 lv, .string s, .slice A3 n3 c3, .slice A4 n4 c4, .slice A5 n5 c5]] w fun e w' => e = .returned (.bool ((b1 && (!b2 && (!b3 && !b5))) && (decide (1 ≤ lv) && (decide (lv ≤ 6) && (R && (m == 1)))))) ∧ Below w.heap.size w w' := by
  have hB : ∀ o, Below w.heap.size w (w.alloc o) := fun o => (Below.refl _ w).alloc (Nat.le_refl _) o
  have hE := eqHas
  cases hb : (b1 && (!b2 && (!b3 && !b5))) with
  | false =>
    go_enter Tryd.func25, Tryd.ntmps25
    go_wp2_with (first | (go_at_call 26; refine (cOf _ (hB _)).mono ?_; rintro e w1 ⟨rfl, hb1⟩; have hk1 := blk_below (blk_new w _) hb1; have z0 : ∀ o', (w1.alloc o').cell? ⟨w.heap.size, 0, none⟩ = some (.int .i64 2) := (fun o' => (blk_cell (blk_alloc hk1 o') 0).trans rfl); have z4 : ∀ o', (w1.alloc o').cell? ⟨w.heap.size, 4, none⟩ = some (.slice A4 n4 c4) := (fun o' => (blk_cell (blk_alloc hk1 o') 4).trans rfl)) | (go_at_call 41; refine (cN _ (below_two hb1)).mono ?_; rintro e w2 ⟨rfl, hb2⟩; have hk2 := blk_below (blk_alloc hk1 _) hb2; have hh2 := blk_below (blk_new w1 _) hb2; have hb3 := (below_two hb1).trans (Below.mono hb2 (below_two hb1).size); have x1 : w2.cell? ⟨w.heap.size, 1, none⟩ = some (.int .i64 lv) := (blk_cell hk2 1).trans rfl; have x4 : w2.cell? ⟨w.heap.size, 4, none⟩ = some (.slice A4 n4 c4) := (blk_cell hk2 4).trans rfl; have v0 : w2.cell? ⟨w1.heap.size, 0, none⟩ = some (.bool b1) := (blk_cell hh2 0).trans rfl; have v1 : w2.cell? ⟨w1.heap.size, 1, none⟩ = some (.bool b2) := (blk_cell hh2 1).trans rfl; have v2 : w2.cell? ⟨w1.heap.size, 2, none⟩ = some (.bool b3) := (blk_cell hh2 2).trans rfl; have v3 : w2.cell? ⟨w1.heap.size, 3, none⟩ = some (.bool b4) := (blk_cell hh2 3).trans rfl; have v4 : w2.cell? ⟨w1.heap.size, 4, none⟩ = some (.bool b5) := (blk_cell hh2 4).trans rfl))
    go_ret
    exact ⟨by first | rfl | (simp [hb]; done), hb3⟩
  | true =>
    cases h1 : decide (1 ≤ lv) with
    | false =>
      go_enter Tryd.func25, Tryd.ntmps25
      go_wp2_with (first | (go_at_call 26; refine (cOf _ (hB _)).mono ?_; rintro e w1 ⟨rfl, hb1⟩; have hk1 := blk_below (blk_new w _) hb1; have z0 : ∀ o', (w1.alloc o').cell? ⟨w.heap.size, 0, none⟩ = some (.int .i64 2) := (fun o' => (blk_cell (blk_alloc hk1 o') 0).trans rfl); have z4 : ∀ o', (w1.alloc o').cell? ⟨w.heap.size, 4, none⟩ = some (.slice A4 n4 c4) := (fun o' => (blk_cell (blk_alloc hk1 o') 4).trans rfl)) | (go_at_call 41; refine (cN _ (below_two hb1)).mono ?_; rintro e w2 ⟨rfl, hb2⟩; have hk2 := blk_below (blk_alloc hk1 _) hb2; have hh2 := blk_below (blk_new w1 _) hb2; have hb3 := (below_two hb1).trans (Below.mono hb2 (below_two hb1).size); have x1 : w2.cell? ⟨w.heap.size, 1, none⟩ = some (.int .i64 lv) := (blk_cell hk2 1).trans rfl; have x4 : w2.cell? ⟨w.heap.size, 4, none⟩ = some (.slice A4 n4 c4) := (blk_cell hk2 4).trans rfl; have v0 : w2.cell? ⟨w1.heap.size, 0, none⟩ = some (.bool b1) := (blk_cell hh2 0).trans rfl; have v1 : w2.cell? ⟨w1.heap.size, 1, none⟩ = some (.bool b2) := (blk_cell hh2 1).trans rfl; have v2 : w2.cell? ⟨w1.heap.size, 2, none⟩ = some (.bool b3) := (blk_cell hh2 2).trans rfl; have v3 : w2.cell? ⟨w1.heap.size, 3, none⟩ = some (.bool b4) := (blk_cell hh2 3).trans rfl; have v4 : w2.cell? ⟨w1.heap.size, 4, none⟩ = some (.bool b5) := (blk_cell hh2 4).trans rfl))
      go_ret
      exact ⟨by first | rfl | (simp [hb]; done), hb3⟩
    | true =>
      cases h2 : decide (lv ≤ 6) with
      | false =>
        go_enter Tryd.func25, Tryd.ntmps25
        go_wp2_with (first | (go_at_call 26; refine (cOf _ (hB _)).mono ?_; rintro e w1 ⟨rfl, hb1⟩; have hk1 := blk_below (blk_new w _) hb1; have z0 : ∀ o', (w1.alloc o').cell? ⟨w.heap.size, 0, none⟩ = some (.int .i64 2) := (fun o' => (blk_cell (blk_alloc hk1 o') 0).trans rfl); have z4 : ∀ o', (w1.alloc o').cell? ⟨w.heap.size, 4, none⟩ = some (.slice A4 n4 c4) := (fun o' => (blk_cell (blk_alloc hk1 o') 4).trans rfl)) | (go_at_call 41; refine (cN _ (below_two hb1)).mono ?_; rintro e w2 ⟨rfl, hb2⟩; have hk2 := blk_below (blk_alloc hk1 _) hb2; have hh2 := blk_below (blk_new w1 _) hb2; have hb3 := (below_two hb1).trans (Below.mono hb2 (below_two hb1).size); have x1 : w2.cell? ⟨w.heap.size, 1, none⟩ = some (.int .i64 lv) := (blk_cell hk2 1).trans rfl; have x4 : w2.cell? ⟨w.heap.size, 4, none⟩ = some (.slice A4 n4 c4) := (blk_cell hk2 4).trans rfl; have v0 : w2.cell? ⟨w1.heap.size, 0, none⟩ = some (.bool b1) := (blk_cell hh2 0).trans rfl; have v1 : w2.cell? ⟨w1.heap.size, 1, none⟩ = some (.bool b2) := (blk_cell hh2 1).trans rfl; have v2 : w2.cell? ⟨w1.heap.size, 2, none⟩ = some (.bool b3) := (blk_cell hh2 2).trans rfl; have v3 : w2.cell? ⟨w1.heap.size, 3, none⟩ = some (.bool b4) := (blk_cell hh2 3).trans rfl; have v4 : w2.cell? ⟨w1.heap.size, 4, none⟩ = some (.bool b5) := (blk_cell hh2 4).trans rfl))
        go_ret
        exact ⟨by first | rfl | (simp [hb]; done), hb3⟩
      | true =>
        cases R with
        | false =>
          go_enter Tryd.func25, Tryd.ntmps25
          go_wp2_with (first | (go_at_call 26; refine (cOf _ (hB _)).mono ?_; rintro e w1 ⟨rfl, hb1⟩; have hk1 := blk_below (blk_new w _) hb1; have z0 : ∀ o', (w1.alloc o').cell? ⟨w.heap.size, 0, none⟩ = some (.int .i64 2) := (fun o' => (blk_cell (blk_alloc hk1 o') 0).trans rfl); have z4 : ∀ o', (w1.alloc o').cell? ⟨w.heap.size, 4, none⟩ = some (.slice A4 n4 c4) := (fun o' => (blk_cell (blk_alloc hk1 o') 4).trans rfl)) | (go_at_call 41; refine (cN _ (below_two hb1)).mono ?_; rintro e w2 ⟨rfl, hb2⟩; have hk2 := blk_below (blk_alloc hk1 _) hb2; have hh2 := blk_below (blk_new w1 _) hb2; have hb3 := (below_two hb1).trans (Below.mono hb2 (below_two hb1).size); have x1 : w2.cell? ⟨w.heap.size, 1, none⟩ = some (.int .i64 lv) := (blk_cell hk2 1).trans rfl; have x4 : w2.cell? ⟨w.heap.size, 4, none⟩ = some (.slice A4 n4 c4) := (blk_cell hk2 4).trans rfl; have v0 : w2.cell? ⟨w1.heap.size, 0, none⟩ = some (.bool b1) := (blk_cell hh2 0).trans rfl; have v1 : w2.cell? ⟨w1.heap.size, 1, none⟩ = some (.bool b2) := (blk_cell hh2 1).trans rfl; have v2 : w2.cell? ⟨w1.heap.size, 2, none⟩ = some (.bool b3) := (blk_cell hh2 2).trans rfl; have v3 : w2.cell? ⟨w1.heap.size, 3, none⟩ = some (.bool b4) := (blk_cell hh2 3).trans rfl; have v4 : w2.cell? ⟨w1.heap.size, 4, none⟩ = some (.bool b5) := (blk_cell hh2 4).trans rfl) | (go_at_call 40; refine (cR _ hb3).mono ?_; rintro e w3 ⟨rfl, hb4⟩))
          go_ret
          exact ⟨by first | rfl | (simp [hb]; done), hb3.trans (Below.mono hb4 hb3.size)⟩
        | true =>
          go_enter Tryd.func25, Tryd.ntmps25
          go_wp2_with (first | (go_at_call 26; refine (cOf _ (hB _)).mono ?_; rintro e w1 ⟨rfl, hb1⟩; have hk1 := blk_below (blk_new w _) hb1; have z0 : ∀ o', (w1.alloc o').cell? ⟨w.heap.size, 0, none⟩ = some (.int .i64 2) := (fun o' => (blk_cell (blk_alloc hk1 o') 0).trans rfl); have z4 : ∀ o', (w1.alloc o').cell? ⟨w.heap.size, 4, none⟩ = some (.slice A4 n4 c4) := (fun o' => (blk_cell (blk_alloc hk1 o') 4).trans rfl)) | (go_at_call 41; refine (cN _ (below_two hb1)).mono ?_; rintro e w2 ⟨rfl, hb2⟩; have hk2 := blk_below (blk_alloc hk1 _) hb2; have hh2 := blk_below (blk_new w1 _) hb2; have hb3 := (below_two hb1).trans (Below.mono hb2 (below_two hb1).size); have x1 : w2.cell? ⟨w.heap.size, 1, none⟩ = some (.int .i64 lv) := (blk_cell hk2 1).trans rfl; have x4 : w2.cell? ⟨w.heap.size, 4, none⟩ = some (.slice A4 n4 c4) := (blk_cell hk2 4).trans rfl; have v0 : w2.cell? ⟨w1.heap.size, 0, none⟩ = some (.bool b1) := (blk_cell hh2 0).trans rfl; have v1 : w2.cell? ⟨w1.heap.size, 1, none⟩ = some (.bool b2) := (blk_cell hh2 1).trans rfl; have v2 : w2.cell? ⟨w1.heap.size, 2, none⟩ = some (.bool b3) := (blk_cell hh2 2).trans rfl; have v3 : w2.cell? ⟨w1.heap.size, 3, none⟩ = some (.bool b4) := (blk_cell hh2 3).trans rfl; have v4 : w2.cell? ⟨w1.heap.size, 4, none⟩ = some (.bool b5) := (blk_cell hh2 4).trans rfl) | (go_at_call 40; refine (cR _ hb3).mono ?_; rintro e w3 ⟨rfl, hb4⟩))
          go_ret
          exact ⟨by first | rfl | (simp [hb]; done), hb3.trans (Below.mono hb4 hb3.size)⟩
set_option maxHeartbeats 8000000 in
set_option maxRecDepth 1000000 in
theorem leaf_fence (t u : Bool) (cOf : OfIs lv s A3 n3 c3 A4 n4 c4 A5 n5 c5 w b1 b2 b3 b4 b5 4) (cI : Says w 42 #[.string s] (.bool t)) (cC : Says w 43 #[.slice A3 n3 c3, .func (.func 44) #[] #[]] (.bool u)) :
    Calls Tryd.prog 25 #[.agg #[.int .i64 4, .int .i64 lv, .string s, .slice A3 n3 c3, .slice A4 n4 c4, .slice A5 n5 c5]] w fun e w' => e = .returned (.bool ((!b1 && (!b4 && !b5)) && (t && !u))) ∧ Below w.heap.size w w' := by
  have hB : ∀ o, Below w.heap.size w (w.alloc o) := fun o => (Below.refl _ w).alloc (Nat.le_refl _) o
  have hE := eqHas
  cases hb : (!b1 && (!b4 && !b5)) with
  | false =>
    go_enter Tryd.func25, Tryd.ntmps25
    go_wp2_with (go_at_call 26; refine (cOf _ (hB _)).mono ?_; rintro e w1 ⟨rfl, hb1⟩; have hk1 := blk_below (blk_new w _) hb1; have z0 : ∀ o', (w1.alloc o').cell? ⟨w.heap.size, 0, none⟩ = some (.int .i64 4) := (fun o' => (blk_cell (blk_alloc hk1 o') 0).trans rfl); have z2 : ∀ o', (w1.alloc o').cell? ⟨w.heap.size, 2, none⟩ = some (.string s) := (fun o' => (blk_cell (blk_alloc hk1 o') 2).trans rfl); have z3 : ∀ o', (w1.alloc o').cell? ⟨w.heap.size, 3, none⟩ = some (.slice A3 n3 c3) := (fun o' => (blk_cell (blk_alloc hk1 o') 3).trans rfl))
    go_ret
    exact ⟨by first | rfl | (simp [hb]; done), below_two hb1⟩
  | true =>
    cases t with
    | false =>
      go_enter Tryd.func25, Tryd.ntmps25
      go_wp2_with (first | (go_at_call 26; refine (cOf _ (hB _)).mono ?_; rintro e w1 ⟨rfl, hb1⟩; have hk1 := blk_below (blk_new w _) hb1; have z0 : ∀ o', (w1.alloc o').cell? ⟨w.heap.size, 0, none⟩ = some (.int .i64 4) := (fun o' => (blk_cell (blk_alloc hk1 o') 0).trans rfl); have z2 : ∀ o', (w1.alloc o').cell? ⟨w.heap.size, 2, none⟩ = some (.string s) := (fun o' => (blk_cell (blk_alloc hk1 o') 2).trans rfl); have z3 : ∀ o', (w1.alloc o').cell? ⟨w.heap.size, 3, none⟩ = some (.slice A3 n3 c3) := (fun o' => (blk_cell (blk_alloc hk1 o') 3).trans rfl)) | (go_at_call 42; refine (cI _ (below_two hb1)).mono ?_; rintro e w2 ⟨rfl, hb2⟩; have hb3 := (below_two hb1).trans (Below.mono hb2 (below_two hb1).size)))
      go_ret
      exact ⟨by first | rfl | (simp [hb]; done), hb3⟩
    | true =>
      go_enter Tryd.func25, Tryd.ntmps25
      go_wp2_with (first | (go_at_call 26; refine (cOf _ (hB _)).mono ?_; rintro e w1 ⟨rfl, hb1⟩; have hk1 := blk_below (blk_new w _) hb1; have z0 : ∀ o', (w1.alloc o').cell? ⟨w.heap.size, 0, none⟩ = some (.int .i64 4) := (fun o' => (blk_cell (blk_alloc hk1 o') 0).trans rfl); have z2 : ∀ o', (w1.alloc o').cell? ⟨w.heap.size, 2, none⟩ = some (.string s) := (fun o' => (blk_cell (blk_alloc hk1 o') 2).trans rfl); have z3 : ∀ o', (w1.alloc o').cell? ⟨w.heap.size, 3, none⟩ = some (.slice A3 n3 c3) := (fun o' => (blk_cell (blk_alloc hk1 o') 3).trans rfl)) | (go_at_call 42; refine (cI _ (below_two hb1)).mono ?_; rintro e w2 ⟨rfl, hb2⟩; have hk2 := blk_below (blk_alloc hk1 _) hb2; have hb3 := (below_two hb1).trans (Below.mono hb2 (below_two hb1).size); have y3 : w2.cell? ⟨w.heap.size, 3, none⟩ = some (.slice A3 n3 c3) := (blk_cell hk2 3).trans rfl) | (go_at_call 43; refine (cC _ hb3).mono ?_; rintro e w3 ⟨rfl, hb4⟩))
      go_ret
      exact ⟨by first | rfl | (simp [hb]; done), hb3.trans (Below.mono hb4 hb3.size)⟩
end
end Go.Proofs.YtbbkjdcpmhpkjaaDoor.G
/-! GivenTreeO -/
set_option linter.unusedVariables false
namespace Go.Proofs.YtbbkjdcpmhpkjaaDoor.G
open Go.RowKit Go.Lib Go.Proofs Go.Proofs.YtbbkjdcpmhpkjaaDoor.X Go.Proofs.YtbbkjdcpmhpkjaaDoorW.PrintWords Go.Proofs.YtbbkjdcpmhpkjaaDoorW.PrintLast Go.Proofs.YtbbkjdcpmhpkjaaDoorW.PrintMore
theorem tree_alloc (w : World) (o : Obj) : (w.alloc o).heap.size = w.heap.size + 1 := by
  show (w.heap.push o).size = _
  exact Array.size_push _
theorem not_empty_ne (l : List UInt8) : (!l.isEmpty) = (l != []) := by cases l <;> rfl
section
variable (lv : Int) (s : ByteArray) (A3 : Option Addr) (n3 c3 : Nat) (A4 : Option Addr) (n4 c4 : Nat) (A5 : Option Addr) (n5 c5 : Nat) (w : World) (b1 b2 b3 b4 b5 : Bool)
set_option maxHeartbeats 8000000 in
set_option maxRecDepth 1000000 in
theorem of_calls (k : Int) : Calls Tryd.prog 26 #[.agg #[.int .i64 k, .int .i64 lv, .string s, .slice A3 n3 c3, .slice A4 n4 c4, .slice A5 n5 c5]] w fun e w' => e = .returned (.agg #[.bool (lv != 0), .bool (s.toList != []), .bool (decide (0 < n3)), .bool (decide (0 < n4)), .bool (decide (0 < n5))]) ∧ Below w.heap.size w w' := by
  have hB : ∀ o o2, Below w.heap.size w ((w.alloc o).alloc o2) := fun o o2 => ((Below.refl _ w).alloc (Nat.le_refl _) o).alloc ((Below.refl _ w).alloc (Nat.le_refl _) o).size o2
  go_enter Tryd.func26, Tryd.ntmps26
  go_wp2_with fail
  refine bodyPost_ret (results_cell_row rfl _ _ (w.heap.size + 1) 50 #[.bool (lv != 0), .bool !s.toList.isEmpty, .bool (decide (0 < n3)), .bool (decide (0 < n4)), .bool (decide (0 < n5))] (0, 0) _ rfl (by rw [← tree_alloc w (.cells #[.int .i64 k, .int .i64 lv, .string s, .slice A3 n3 c3, .slice A4 n4 c4, .slice A5 n5 c5] 28)]; exact blk_new _ _) Tryd.underlying50 rfl (by kernel_rfl)) rfl ?_
  exact ⟨by rw [not_empty_ne s.toList], hB _ _⟩
end
end Go.Proofs.YtbbkjdcpmhpkjaaDoor.G
/-! GivenTree0 -/
set_option linter.unusedVariables false
namespace Go.Proofs.YtbbkjdcpmhpkjaaDoor.G
open Go.RowKit Go.Lib Go.Proofs Go.Proofs.YtbbkjdcpmhpkjaaDoor.X Go.Proofs.YtbbkjdcpmhpkjaaDoor.Pure Go.Proofs.YtbbkjdcpmhpkjaaDoorW.PrintWords Go.Proofs.YtbbkjdcpmhpkjaaDoorW.PrintLast Go.Proofs.YtbbkjdcpmhpkjaaDoorW.PrintMore
set_option maxHeartbeats 4000000 in
set_option maxRecDepth 1000000 in
theorem not_line (s : ByteArray) (hs : s.size ≤ 1000000) (w : World) (hT : Tabs w) : Calls Tryd.prog 44 #[.string s] w fun e w' => e = .returned (.bool (!lineV (L s))) ∧ Below w.heap.size w w' := by
  have c := tree_line.calls s (lineV (L s)) w hT (tree_line_eq s hs)
  generalize lineV (L s) = b at c
  go_enter Tryd.func44, Tryd.ntmps44
  go_wp2_with (go_at_call 16; refine c.mono ?_; rintro e w1 ⟨rfl, hb⟩)
  go_ret
  exact ⟨rfl, hb⟩
def badAt (l : List ByteArray) (i : Nat) : Bool := !lineV (L (l.getD i ByteArray.empty))
theorem any_bad (l : List ByteArray) (i : Nat) (hi : i < l.length) (h : badAt l i = true) : l.any (fun s => !lineV (L s)) = true := by
  rw [List.any_eq_true]
  refine ⟨l[i], List.getElem_mem hi, ?_⟩
  unfold badAt at h
  rw [List.getD_eq_getElem?_getD, List.getElem?_eq_getElem hi] at h
  exact h
theorem none_bad (l : List ByteArray) (h : ∀ i, i < l.length → badAt l i = false) : l.any (fun s => !lineV (L s)) = false := by
  rw [List.any_eq_false]
  intro x hx
  obtain ⟨i, hi, rfl⟩ := List.getElem_of_mem hx
  have := h i hi
  unfold badAt at this
  rw [List.getD_eq_getElem?_getD, List.getElem?_eq_getElem hi] at this
  simpa using this
set_option maxHeartbeats 8000000 in
set_option maxRecDepth 1000000 in
theorem index_line (A : Option Addr) (c : Nat) (l : List ByteArray) (w : World) (hT : Tabs w) (hr : Kd.C Kd.string w A l.length l) (hs : ∀ s ∈ l, s.size ≤ 1000000) :
    Calls Tryd.prog 60 #[.slice A l.length c, .func (.func 44) #[] #[]] w fun e w' => (∃ n : Int, e = .returned (.int .i64 n) ∧ decide (0 ≤ n) = l.any (fun s => !lineV (L s))) ∧ Below w.heap.size w w' := by
  obtain ⟨_, hm, hc⟩ := Kd.reads_of_C (enc := Value.string) (d := ByteArray.empty) (h1 := fun _ => rfl) hr
  have cN : ∀ i, i < l.length → ∀ W, Below w.heap.size w W → Calls Tryd.prog 44 #[.string (l.getD i ByteArray.empty)] W fun e w' => e = .returned (.bool (badAt l i)) ∧ Below W.heap.size W w' := by
    intro i hi W hW
    refine not_line _ (hs _ ?_) W (Tabs.at hT hW)
    rw [List.getD_eq_getElem?_getD, List.getElem?_eq_getElem hi]
    exact List.getElem_mem hi
  have hAll := any_bad l
  have hNone := none_bad l
  clear hr hs hT
  generalize l.any (fun s => !lineV (L s)) = R at hAll hNone
  generalize hbd : badAt l = bd at cN hAll hNone
  generalize hgl : (fun i => l.getD i ByteArray.empty) = gl at *
  have hgl2 : ∀ i, l.getD i ByteArray.empty = gl i := fun i => congrFun hgl i
  simp only [hgl2] at hc cN
  generalize l.length = n at *
  have eg : ∀ args w, (callFunc 44 args).run Tryd.prog w = .ok (.enter 44 args) w := enters_of Tryd.func44 (by kernel_rfl) rfl
  go_enter Tryd.func60, Tryd.ntmps60
  go_wp2
  go_loopw [8] (fun v8 wr => ∃ i : Nat, v8 = .int .i64 (i : Int) ∧ i ≤ n ∧ (∀ j, j < i → bd j = false) ∧ Below w.heap.size w wr) (fun v8 _ => n - (intOf v8).toNat)
  case atStart => exact ⟨0, rfl, Nat.zero_le _, fun j hj => by omega, Below.refl _ _⟩
  case round =>
    obtain ⟨i, rfl, hi, hp, hbw⟩ := hrel
    by_cases hlt : i < n
    · obtain ⟨ad, rfl, hc2⟩ := hc (by omega)
      have hx0 := hc2 i hlt
      have hx := (hbw.cell (World.block_lt_of_cell? w _ hx0)).trans hx0
      have hd : decide ((i : Int) < (n : Int)) = true := decide_eq_true (by omega)
      have hd2 : ((0 : Int) ≤ (i : Int)) = True := eq_true (by omega)
      have hd3 : ((i : Int) < (n : Int)) = True := eq_true (by omega)
      have cI := cN i hlt wr hbw
      have hA := hAll i hlt
      clear hc hc2 hx0 cN hAll
      generalize gl i = s at hx cI
      cases hb : bd i with
      | true =>
        rw [hb] at cI
        go_wp2_with (go_at_fn 44; refine cI.mono ?_; rintro e w1 ⟨rfl, hb1⟩)
        go_ret
        exact ⟨⟨_, rfl, by rw [hA hb]; exact decide_eq_true (by omega)⟩, hbw.trans (Below.mono hb1 hbw.size)⟩
      | false =>
        rw [hb] at cI
        go_wp2_with (go_at_fn 44; refine cI.mono ?_; rintro e w1 ⟨rfl, hb1⟩)
        go_roundw
        case rel => exact ⟨i + 1, congrArg _ (by omega), by omega, fun j hj => by
          rcases Nat.lt_or_ge j i with g | g
          · exact hp j g
          · obtain rfl : j = i := by omega
            exact hb, hbw.trans (Below.mono hb1 hbw.size)⟩
        case measure => simp [intOf]; omega
    · have hd : decide ((i : Int) < (n : Int)) = false := decide_eq_false (by omega)
      have hR := hNone (fun j hj => hp j (by omega))
      clear hAll hNone cN hc
      go_wp2_with fail
      go_ret
      exact ⟨⟨-1, rfl, by rw [hR]; rfl⟩, hbw⟩
set_option maxHeartbeats 4000000 in
set_option maxRecDepth 1000000 in
theorem contains_line (A : Option Addr) (c : Nat) (l : List ByteArray) (w : World) (hT : Tabs w) (hr : Kd.C Kd.string w A l.length l) (hs : ∀ s ∈ l, s.size ≤ 1000000) :
    Calls Tryd.prog 43 #[.slice A l.length c, .func (.func 44) #[] #[]] w fun e w' => e = .returned (.bool (l.any (fun s => !lineV (L s)))) ∧ Below w.heap.size w w' := by
  have c0 := index_line A c l w hT hr hs
  clear hr hs hT
  generalize l.any (fun s => !lineV (L s)) = R at c0
  generalize l.length = n at *
  go_enter Tryd.func43, Tryd.ntmps43
  go_wp2_with (go_at_call 60; refine c0.mono ?_; rintro e w1 ⟨⟨m, rfl, hm⟩, hb⟩)
  go_ret
  exact ⟨by rw [← hm]; rfl, hb⟩
end Go.Proofs.YtbbkjdcpmhpkjaaDoor.G
/-! GivenTreeF -/
set_option linter.unusedVariables false
set_option linter.unusedSimpArgs false
namespace Go.Proofs.YtbbkjdcpmhpkjaaDoor.G
open Go.RowKit Go.Lib Go.Proofs Go.Proofs.YtbbkjdcpmhpkjaaDoor.X Go.Proofs.YtbbkjdcpmhpkjaaDoor.Pure Go.Proofs.YtbbkjdcpmhpkjaaDoorW.PrintWords Go.Proofs.YtbbkjdcpmhpkjaaDoorW.PrintLast Go.Proofs.YtbbkjdcpmhpkjaaDoorW.PrintMore
theorem tree_info_eq (s : ByteArray) (hs : s.size ≤ 1000000) : tree_info.f s = some (infoV (L s)) := by
  unfold tree_info.f infoV
  rw [tree_line_eq s hs, Option.bind_some]
  cases hl : lineV (L s) with
  | false => rfl
  | true =>
    rw [if_pos rfl, lines_Trim_eq s (by omega), Option.bind_some, L_toList, L_toList, L_mk]
    by_cases ht : trim (L s) = L s
    · rw [if_pos ht, beq_iff_eq.2 ht]
      have hc : strings_Contains.f s (⟨#[96]⟩ : ByteArray) = some ((L s).contains 96) := by
        unfold strings_Contains.f
        show some (decide (0 ≤ Lib.indexByte (L s) 96)) = _
        rw [contains_iff_indexByte]
      rw [hc, Option.bind_some]
      cases (L s).contains 96 <;> rfl
    · rw [if_neg ht, beq_eq_false_iff_ne.2 ht]; rfl
theorem some_more {α : Type} (l : List α) : decide (0 < l.length) = !l.isEmpty := by cases l with | nil => rfl | cons a t => exact decide_eq_true (by rw [List.length_cons]; omega)
theorem ne_zero (lv : Int) : (lv != 0) = !decide (lv = 0) := by
  by_cases h : lv = 0
  · subst h; rfl
  · rw [decide_eq_false h]; exact bne_iff_ne.2 h
theorem ne_empty (s : ByteArray) : (s.toList != []) = !(L s).isEmpty := by
  rw [L_toList]
  cases L s <;> rfl
theorem head_level (lv : Int) (x : Bool) : (!decide (lv = 0) && (decide (1 ≤ lv) && x)) = (decide (1 ≤ lv) && x) := by
  by_cases h : lv = 0
  · subst h; simp
  · rw [decide_eq_false h]; rfl
theorem label_some (l : List UInt8) : (!l.isEmpty && labelV l) = labelV l := by
  unfold labelV
  cases l.isEmpty <;> rfl
theorem one_some {α : Type} (l : List α) : (!l.isEmpty && decide (l.length = 1)) = decide (l.length = 1) := by
  cases l <;> simp
theorem all_any (l : List ByteArray) : (!l.any (fun s => !lineV (L s))) = l.all (fun s => lineV (L s)) := by
  induction l with
  | nil => rfl
  | cons a t ih => rw [List.any_cons, List.all_cons, ← ih]; cases lineV (L a) <;> rfl
theorem says_of {f : FuncId} {args : Array Value} {v : Value} {w : World} (h : ∀ W, Below w.heap.size w W → Calls Tryd.prog f args W fun e w' => e = .returned v ∧ Below W.heap.size W w') : Says w f args v := h
set_option maxHeartbeats 4000000 in
set_option maxRecDepth 1000000 in
theorem leaf_calls (k lv : Int) (s : ByteArray) (A3 : Option Addr) (l3 : List ByteArray) (c3 : Nat) (A4 : Option Addr) (l4 : List S33) (c4 : Nat) (A5 : Option Addr) (l5 : List S28) (c5 : Nat) (w : World) (hT : Tabs w)
    (hr3 : Kd.C Kd.string w A3 l3.length l3) (hr4 : Kd.C k33 w A4 l4.length l4) (hc4 : l4.length ≤ c4) (hs : s.size ≤ 1000000) (h3 : wtT l3 ≤ 1000000) (h4 : wtL l4 ≤ 1000000) :
    Calls Tryd.prog 25 #[.agg #[.int .i64 k, .int .i64 lv, .string s, .slice A3 l3.length c3, .slice A4 l4.length c4, .slice A5 l5.length c5]] w fun e w' => e = .returned (.bool (leafV k lv s l3 l4 l5)) ∧ Below w.heap.size w w' := by
  have cOf : ∀ k, OfIs lv s A3 l3.length c3 A4 l4.length c4 A5 l5.length c5 w (!decide (lv = 0)) (!(L s).isEmpty) (!l3.isEmpty) (!l4.isEmpty) (!l5.isEmpty) k := by
    intro k W hW
    have c := of_calls lv s A3 l3.length c3 A4 l4.length c4 A5 l5.length c5 W k
    rw [ne_zero, ne_empty, some_more, some_more, some_more] at c
    exact c
  have cR : Says w 40 #[.slice A4 l4.length c4] (.bool (rightL l4)) := fun W hW => span_Right.calls (3 * wtL l4 + 41) A4 c4 l4 _ W (Tabs.at hT hW) (Kd.C_below hr4 hW) hc4 (Right_eq l4 _ h4 (by omega))
  unfold leafV
  by_cases e1 : k = 1
  · subst e1
    rw [if_pos rfl]
    refine (leaf_para _ _ _ _ _ _ _ _ _ _ _ _ _ _ _ _ _ (rightL l4) (cOf 1) cR).mono ?_
    rintro e w' ⟨rfl, hb⟩
    refine ⟨?_, hb⟩
    simp only [Bool.not_not, Bool.and_assoc]
  rw [if_neg e1]
  by_cases e2 : k = 2
  · subst e2
    rw [if_pos rfl]
    have cN : Says w 41 #[.slice A4 l4.length c4] (.int .i64 (linesL l4)) := fun W hW => span_Lines.calls A4 c4 l4 _ W (Kd.C_below hr4 hW) hc4 (Lines_eq l4 h4)
    refine (leaf_head _ _ _ _ _ _ _ _ _ _ _ _ _ _ _ _ _ (rightL l4) (linesL l4) (cOf 2) cN cR).mono ?_
    rintro e w' ⟨rfl, hb⟩
    refine ⟨?_, hb⟩
    have hq : (linesL l4 == 1) = decide (linesL l4 = 1) := rfl
    rw [hq]
    have hl := head_level lv
    generalize rightL l4 = p1
    generalize decide (linesL l4 = 1) = p2
    generalize decide (lv ≤ 6) = p3
    generalize decide (1 ≤ lv) = p4 at *
    generalize decide (lv = 0) = p5 at *
    generalize (L s).isEmpty = p6
    generalize l3.isEmpty = p7
    generalize l5.isEmpty = p8
    have hl2 := hl true
    clear hl cOf cR cN
    revert hl2
    cases p4 <;> cases p5 <;> cases p6 <;> cases p7 <;> cases p8 <;> cases p1 <;> cases p2 <;> cases p3 <;> (intro q; first | rfl | cases q)
  rw [if_neg e2]
  by_cases e3 : k = 3
  · subst e3
    rw [if_pos rfl]
    refine (leaf_rule _ _ _ _ _ _ _ _ _ _ _ _ _ _ _ _ _ (cOf 3)).mono ?_
    rintro e w' ⟨rfl, hb⟩
    refine ⟨?_, hb⟩
    simp only [Bool.not_not, Bool.and_assoc]
  rw [if_neg e3]
  by_cases e4 : k = 4
  · subst e4
    rw [if_pos rfl]
    have cI : Says w 42 #[.string s] (.bool (infoV (L s))) := fun W hW => tree_info.calls s _ W (Tabs.at hT hW) (tree_info_eq s hs)
    have cC : Says w 43 #[.slice A3 l3.length c3, .func (.func 44) #[] #[]] (.bool (l3.any (fun s => !lineV (L s)))) := fun W hW => contains_line A3 c3 l3 W (Tabs.at hT hW) (Kd.C_below hr3 hW) (fun x hx => by have := wtT_mem l3 x hx; omega)
    refine (leaf_fence _ _ _ _ _ _ _ _ _ _ _ _ _ _ _ _ _ _ _ (cOf 4) cI cC).mono ?_
    rintro e w' ⟨rfl, hb⟩
    refine ⟨?_, hb⟩
    rw [all_any]
    simp only [Bool.not_not, Bool.and_assoc]
  rw [if_neg e4]
  by_cases e8 : k = 8
  · subst e8
    rw [if_pos rfl]
    have cL : Says w 12 #[.string s] (.bool (labelV (L s))) := fun W hW => tree_Label.calls s _ W (Tabs.at hT hW) (tree_Label_eq s hs)
    have cD : Says w 45 #[.string (l3.getD 0 ByteArray.empty)] (.bool (destL (L (l3.getD 0 ByteArray.empty)))) := fun W hW => span_Dest.calls _ _ W rfl
    have h1 : l3.length = 1 → ∃ ad, A3 = some ad ∧ w.cell? ad = some (.string (l3.getD 0 ByteArray.empty)) := by
      intro h
      obtain ⟨_, _, hc⟩ := Kd.reads_of_C (enc := Value.string) (d := ByteArray.empty) (h1 := fun _ => rfl) hr3
      obtain ⟨ad, e, hc2⟩ := hc (by omega)
      refine ⟨ad, e, ?_⟩
      have := hc2 0 (by omega)
      simpa [Addr.add] using this
    refine (leaf_def _ _ _ _ _ _ _ _ _ _ _ _ _ _ _ _ _ _ _ _ (cOf 8) cL h1 cD).mono ?_
    rintro e w' ⟨rfl, hb⟩
    refine ⟨?_, hb⟩
    have hl1 := label_some (L s)
    have hl2 := one_some l3
    generalize labelV (L s) = p1 at *
    generalize decide (l3.length = 1) = p2 at *
    generalize destL (L (l3.getD 0 ByteArray.empty)) = p3
    generalize decide (lv = 0) = p5 at *
    generalize (L s).isEmpty = p6 at *
    generalize l3.isEmpty = p7 at *
    generalize l4.isEmpty = p4
    generalize l5.isEmpty = p8
    clear cOf cR cL cD h1
    revert hl1 hl2
    cases p1 <;> cases p2 <;> cases p6 <;> cases p7 <;> cases p5 <;> cases p4 <;> cases p8 <;> cases p3 <;> (intro q1 q2; first | rfl | (cases q1; done) | (cases q2; done))
  rw [if_neg e8]
  exact leaf_none _ _ _ _ _ _ _ _ _ _ _ _ _ _ _ _ _ k e1 e2 e3 e4 e8 (cOf k)
end Go.Proofs.YtbbkjdcpmhpkjaaDoor.G
/-! GivenTreeP -/
set_option linter.unusedVariables false
set_option linter.unusedSimpArgs false
namespace Go.Proofs.YtbbkjdcpmhpkjaaDoor.G
open Go.RowKit Go.Lib Go.Proofs Go.Proofs.YtbbkjdcpmhpkjaaDoor.X Go.Proofs.YtbbkjdcpmhpkjaaDoor.Pure Go.Proofs.YtbbkjdcpmhpkjaaDoorW.PrintWords Go.Proofs.YtbbkjdcpmhpkjaaDoorW.PrintLast Go.Proofs.YtbbkjdcpmhpkjaaDoorW.PrintMore
section
variable {P : Program} {ops : Array Oper} {Q : Exit → Act → World → Prop}
/-- A call in a region that draws its order. -/
theorem goesT_ {oi : Oper} {N : Option Tmp} {a : Act} {w : World} {K : Act → World → Prop} {f : FuncId} {fn : Func} {as_ : Array Operand} {ts : Array TypeId} (hf : P.funcs[f]? = some fn) (hname : (fn.name == "runtime.NumGoroutine") = false) (hb : fn.body.isSome = true) (args : Array Value)
    (hw : Region.wanted oi (yielded ops a.tmps) = true) (hN : oi.dst = N) (hop : oi.op = .call { callee := .value (.func f), args := as_, argTypes := ts }) (hargs : as_.map a.eval = args)
    (h : Calls P f args w fun e w' => ∃ v, e = .returned v ∧ K (a.put N v) w') : if Region.wanted oi (yielded ops a.tmps) = true then Oper.wp P oi a w K Q else K (a.put N undef) w := by
  have he := enters_ hf hname hb args w
  have hrun : (execOp a.eval oi).run P w = .ok (.enter f args) w := by
    unfold execOp
    simp [hop, resolve, Deferred.ofValue, invoke, Act.eval, hargs, he]
  rw [if_pos hw]
  subst hN
  unfold Oper.wp
  rw [hrun, Oper.upon_enter]
  refine h.mono fun e w'' hh => ?_
  obtain ⟨v, rfl, hk⟩ := hh
  exact hk
end
section
variable (lv : Int) (s : ByteArray) (A3 : Option Addr) (n3 c3 : Nat) (A4 : Option Addr) (n4 c4 : Nat) (A5 : Option Addr) (n5 c5 : Nat) (w : World)
theorem box_cells {w : World} {g : Nat} {a b c d e f : Value} {t : TypeId} (h : w.heap[g]? = some (.cells #[a, b, c, d, e, f] t (0, 0))) : w.cell? ⟨g, 0, none⟩ = some a ∧ w.cell? ⟨g, 1, none⟩ = some b ∧ w.cell? ⟨g, 2, none⟩ = some c ∧ w.cell? ⟨g, 3, none⟩ = some d ∧ w.cell? ⟨g, 4, none⟩ = some e ∧ w.cell? ⟨g, 5, none⟩ = some f :=
  ⟨blk_cell h 0, blk_cell h 1, blk_cell h 2, blk_cell h 3, blk_cell h 4, blk_cell h 5⟩
theorem below_drawn {w w1 w2 : World} (h : Below w.heap.size w w1) (d : Drawn0 w1 w2) : Below w.heap.size w w2 := h.trans (Below.mono d.below h.size)
set_option maxHeartbeats 8000000 in
set_option maxRecDepth 1000000 in
theorem one_leaf (k : Int) (h5 : k ≠ 5) (h6 : k ≠ 6) (h7 : k ≠ 7) (r : Bool) (cL : Says w 25 #[.agg #[.int .i64 k, .int .i64 lv, .string s, .slice A3 n3 c3, .slice A4 n4 c4, .slice A5 n5 c5]] (.bool r)) :
    Calls Tryd.prog 20 #[.agg #[.int .i64 k, .int .i64 lv, .string s, .slice A3 n3 c3, .slice A4 n4 c4, .slice A5 n5 c5], .bool false] w fun e w' => e = .returned (.bool r) ∧ Below w.heap.size w w' := by
  have hB : ∀ o, Below w.heap.size w (w.alloc o) := fun o => (Below.refl _ w).alloc (Nat.le_refl _) o
  have cC : ∀ W, Calls Tryd.prog 15 #[.int .i64 k] W fun e w' => e = .returned (.bool false) ∧ Drawn0 W w' := fun W => tree_container.calls k false W (by unfold tree_container.f; rw [if_neg h5, if_neg h6]; exact congrArg _ (beq_eq_false_iff_ne.2 h7))
  have e7 : (k == 7) = false := beq_eq_false_iff_ne.2 h7
  clear h5 h6 h7
  go_enter Tryd.func20, Tryd.ntmps20
  go_wp2_with (first | (go_at_call 15; refine (cC _).mono ?_; rintro e w1 ⟨rfl, hd1⟩; have hk1 := blk_below (blk_new w _) hd1.below; obtain ⟨z0, z1, z2, z3, z4, z5⟩ := box_cells hk1) | (go_at_call 25; refine (cL _ (below_drawn (hB _) hd1)).mono ?_; rintro e w2 ⟨rfl, hb2⟩))
  go_ret
  exact ⟨rfl, (below_drawn (hB _) hd1).trans (Below.mono hb2 (below_drawn (hB _) hd1).size)⟩
set_option maxHeartbeats 8000000 in
set_option maxRecDepth 1000000 in
theorem one_kind (k : Int) (q : Bool) (h : decide (k = 7) ≠ q) :
    Calls Tryd.prog 20 #[.agg #[.int .i64 k, .int .i64 lv, .string s, .slice A3 n3 c3, .slice A4 n4 c4, .slice A5 n5 c5], .bool q] w fun e w' => e = .returned (.bool false) ∧ Below w.heap.size w w' := by
  have hB : ∀ o, Below w.heap.size w (w.alloc o) := fun o => (Below.refl _ w).alloc (Nat.le_refl _) o
  by_cases h7 : k = 7
  · subst h7
    cases q with
    | true => exact absurd rfl h
    | false =>
      clear h
      go_enter Tryd.func20, Tryd.ntmps20
      go_wp2_with fail
      go_ret
      exact ⟨rfl, hB _⟩
  · have e7 : (k == 7) = false := beq_eq_false_iff_ne.2 h7
    cases q with
    | false => exact absurd (decide_eq_false h7) h
    | true =>
      clear h h7
      go_enter Tryd.func20, Tryd.ntmps20
      go_wp2_with fail
      go_ret
      exact ⟨rfl, hB _⟩
set_option maxHeartbeats 8000000 in
set_option maxRecDepth 1000000 in
theorem one_cont (kk : Int) (q t : Bool) (h7 : decide (kk = 7) = q) (h6 : decide (kk = 6) = t) (hc : kk = 5 ∨ kk = 6 ∨ kk = 7) (b1 b2 b3 b4 : Bool) (r : Bool) (cOf : OfIs lv s A3 n3 c3 A4 n4 c4 A5 n5 c5 w b1 b2 b3 b4 (decide (0 < n5)) kk) (cA : Says w 14 #[.slice A5 n5 c5, .bool t] (.bool r)) :
    Calls Tryd.prog 20 #[.agg #[.int .i64 kk, .int .i64 lv, .string s, .slice A3 n3 c3, .slice A4 n4 c4, .slice A5 n5 c5], .bool q] w fun e w' => e = .returned (.bool ((!b1 && (!b2 && (!b3 && !b4))) && ((!t || decide (0 < n5)) && r))) ∧ Below w.heap.size w w' := by
  have hB : ∀ o, Below w.heap.size w (w.alloc o) := fun o => (Below.refl _ w).alloc (Nat.le_refl _) o
  have hE := eqHas
  have e7 : (kk == 7) = q := h7
  have e6 : (kk == 6) = t := h6
  have e6n : (kk != 6) = !t := by rw [← e6]; rfl
  have eqq : (q != q) = false := by cases q <;> rfl
  have cC : ∀ W, Calls Tryd.prog 15 #[.int .i64 kk] W fun e w' => e = .returned (.bool true) ∧ Drawn0 W w' := fun W => tree_container.calls kk true W (by unfold tree_container.f; rcases hc with h | h | h <;> (subst h; rfl))
  have hfin : ((!b1 && (!b2 && (!b3 && !b4))) && ((!t || decide (0 < n5)) && r)) = (!(b1 || (b2 || (b3 || b4))) && ((!t || decide (0 < n5)) && r)) := by simp only [Bool.not_or]
  rw [hfin]
  clear h7 h6 hc
  go_enter Tryd.func20, Tryd.ntmps20
  go_wp2_with (go_at_call 15; refine (cC _).mono ?_; rintro e w1 ⟨rfl, hd1⟩; have hk1 := blk_below (blk_new w _) hd1.below; obtain ⟨z0, z1, z2, z3, z4, z5⟩ := box_cells hk1; have hb1 := below_drawn (hB _) hd1)
  refine start_ (n := 9) (S := fun w' => w'.cell? ⟨w.heap.size, 0, none⟩ = some (.int .i64 kk) ∧ w'.cell? ⟨w.heap.size, 1, none⟩ = some (.int .i64 lv) ∧ w'.cell? ⟨w.heap.size, 2, none⟩ = some (.string s) ∧ w'.cell? ⟨w.heap.size, 3, none⟩ = some (.slice A3 n3 c3) ∧ w'.cell? ⟨w.heap.size, 4, none⟩ = some (.slice A4 n4 c4) ∧ w'.cell? ⟨w.heap.size, 5, none⟩ = some (.slice A5 n5 c5) ∧ w'.heap[w.heap.size]? = some (.cells #[.int .i64 kk, .int .i64 lv, .string s, .slice A3 n3 c3, .slice A4 n4 c4, .slice A5 n5 c5] 28 (0, 0)) ∧ Below w.heap.size w w') (ds := []) #[false, false, false, false, false, false, false, false, false] (by kernel_rfl) rfl rfl ⟨z0, z1, z2, z3, z4, z5, hk1, below_drew hb1⟩ (fun hHeld => ?_)
  refine pure_ (i := 2) (N := some 21) (v := ?_) (a' := ?_) #[false, false, true, false, false, false, false, false, false] rfl rfl (by kernel_rfl) (fun _ _ _ h => h) (Or.inl ⟨by rfl, ?_⟩) ?_ ?_
  rotate_left
  · intro w'
    go_simp
    with_reducible rfl
  rotate_left
  · simp only [Act.put, List.setIfInBounds_toArray, List.set_cons_zero, List.set_cons_succ, i64_w, i32_w]
    rfl
  refine take_ (i := 0) (N := some 19) (v := ?_) (a' := ?_) #[true, false, true, false, false, false, false, false, false] rfl rfl (by kernel_rfl) (fun _ _ _ h => h) (Or.inl ⟨by rfl, ?_⟩) hHeld ?_ ?_
  rotate_left
  · rintro w' ⟨s0, s1, s2, s3, s4, s5, s6, s7⟩
    go_simp
    with_reducible rfl
  rotate_left
  · simp only [Act.put, List.setIfInBounds_toArray, List.set_cons_zero, List.set_cons_succ, i64_w, i32_w]
    rfl
  refine take_ (i := 3) (N := some 22) (v := ?_) (a' := ?_) #[true, false, true, true, false, false, false, false, false] rfl rfl (by kernel_rfl) (fun _ _ _ h => h) (Or.inl ⟨by rfl, ?_⟩) hHeld ?_ ?_
  rotate_left
  · rintro w' ⟨s0, s1, s2, s3, s4, s5, s6, s7⟩
    go_simp
    with_reducible rfl
  rotate_left
  · simp only [Act.put, List.setIfInBounds_toArray, List.set_cons_zero, List.set_cons_succ, i64_w, i32_w]
    rfl
  refine pure_ (i := 4) (N := some 23) (v := ?_) (a' := ?_) #[true, false, true, true, true, false, false, false, false] rfl rfl (by kernel_rfl) (fun _ _ _ h => h) (Or.inl ⟨by rfl, ?_⟩) ?_ ?_
  rotate_left
  · intro w'
    go_simp
    with_reducible rfl
  rotate_left
  · simp only [Act.put, List.setIfInBounds_toArray, List.set_cons_zero, List.set_cons_succ, i64_w, i32_w]
    rfl
  refine pure_ (i := 5) (N := some 24) (v := ?_) (a' := ?_) #[true, false, true, true, true, true, false, false, false] rfl rfl (by kernel_rfl) (fun _ _ _ h => h) (Or.inl ⟨by rfl, ?_⟩) ?_ ?_
  rotate_left
  · intro w'
    go_simp
    with_reducible rfl
  rotate_left
  · simp only [Act.put, List.setIfInBounds_toArray, List.set_cons_zero, List.set_cons_succ, i64_w, i32_w]
    rfl
  refine pure_ (i := 6) (N := some 25) (v := ?_) (a' := ?_) #[true, false, true, true, true, true, true, false, false] rfl rfl (by kernel_rfl) (fun _ _ _ h => h) (Or.inl ⟨by rfl, ?_⟩) ?_ ?_
  rotate_left
  · intro w'
    go_simp
    with_reducible rfl
  rotate_left
  · simp only [Act.put, List.setIfInBounds_toArray, List.set_cons_zero, List.set_cons_succ, i64_w, i32_w]
    rfl
  refine one_ (i := 1) (N := some 20) #[true, true, true, true, true, true, true, false, false] rfl rfl (by kernel_rfl) (by decide) (fun K hK => ?_)
  refine goesT_ Tryd.func26 (by kernel_rfl) rfl #[.agg #[.int .i64 kk, .int .i64 lv, .string s, .slice A3 n3 c3, .slice A4 n4 c4, .slice A5 n5 c5]] (by rfl) rfl rfl (by simp only [List.map_toArray, List.map_cons, List.map_nil]; rfl) ?_
  refine (cOf _ hHeld.2.2.2.2.2.2.2).mono ?_
  rintro e w3 ⟨rfl, hb2⟩
  refine ⟨_, rfl, ?_⟩
  have hk2 := blk_below hHeld.2.2.2.2.2.2.1 hb2
  obtain ⟨y0, y1, y2, y3, y4, y5⟩ := box_cells hk2
  have hb3 := hHeld.2.2.2.2.2.2.2.trans (Below.mono hb2 hHeld.2.2.2.2.2.2.2.size)
  refine hK.out _ _ ⟨y0, y1, y2, y3, y4, y5, hk2, hb3⟩ (fun hHeld => ?_)
  clear hK K
  refine norm_ (a' := ?_) ?_ ?_
  rotate_left
  · show Act.put _ (some 20) _ = _
    simp only [Act.put, List.setIfInBounds_toArray, List.set_cons_zero, List.set_cons_succ, i64_w, i32_w]
    rfl
  refine pure_ (i := 7) (N := some 26) (v := ?_) (a' := ?_) #[true, true, true, true, true, true, true, true, false] rfl rfl (by kernel_rfl) (fun _ _ _ h => h) (Or.inl ⟨by rfl, ?_⟩) ?_ ?_
  rotate_left
  · intro w'
    go_simp
    with_reducible rfl
  rotate_left
  · simp only [Act.put, List.setIfInBounds_toArray, List.set_cons_zero, List.set_cons_succ, i64_w, i32_w]
    rfl
  refine pure_ (i := 8) (N := some 18) (v := ?_) (a' := ?_) #[true, true, true, true, true, true, true, true, true] rfl rfl (by kernel_rfl) (fun _ _ _ h => h) (Or.inl ⟨by rfl, ?_⟩) ?_ ?_
  rotate_left
  · intro w'
    go_simp
    with_reducible rfl
  rotate_left
  · simp only [Act.put, List.setIfInBounds_toArray, List.set_cons_zero, List.set_cons_succ, i64_w, i32_w]
    rfl
  refine done_ (by kernel_rfl) ?_
  clear hE cC cOf hHeld
  have hd5 : decide ((n5 : Int) > 0) = decide (0 < n5) := by simp
  cases hfb : (b1 || (b2 || (b3 || b4))) with
  | true =>
    go_wp2_with fail
    go_ret
    exact ⟨by first | rfl | (simp only [hfb, hg5]; rfl) | (simp only [hfb]; rfl), hb3⟩
  | false =>
    cases t with
    | false =>
      go_wp2_with (go_at_call 14; refine (cA _ hb3).mono ?_; rintro e w4 ⟨rfl, hb4⟩)
      go_ret
      exact ⟨by first | rfl | (simp only [hfb, hg5]; rfl) | (simp only [hfb]; rfl), hb3.trans (Below.mono hb4 hb3.size)⟩
    | true =>
      cases hg5 : decide (0 < n5) with
      | false =>
        go_wp2_with fail
        go_ret
        exact ⟨by first | rfl | (simp only [hfb, hg5]; rfl) | (simp only [hfb]; rfl), hb3⟩
      | true =>
        go_wp2_with (go_at_call 14; refine (cA _ hb3).mono ?_; rintro e w4 ⟨rfl, hb4⟩)
        go_ret
        exact ⟨by first | rfl | (simp only [hfb, hg5]; rfl) | (simp only [hfb]; rfl), hb3.trans (Below.mono hb4 hb3.size)⟩
end
end Go.Proofs.YtbbkjdcpmhpkjaaDoor.G
/-! GivenTree -/
set_option linter.unusedVariables false
set_option linter.unusedSimpArgs false
namespace Go.Proofs.YtbbkjdcpmhpkjaaDoor.G
open Go.RowKit Go.Lib Go.Proofs Go.Proofs.YtbbkjdcpmhpkjaaDoor.X Go.Proofs.YtbbkjdcpmhpkjaaDoor.Pure Go.Proofs.YtbbkjdcpmhpkjaaDoorW.PrintWords Go.Proofs.YtbbkjdcpmhpkjaaDoorW.PrintLast Go.Proofs.YtbbkjdcpmhpkjaaDoorW.PrintMore
def OneOk (n : Nat) : Prop := ∀ (k lv : Int) (s : ByteArray) (A3 : Option Addr) (l3 : List ByteArray) (c3 : Nat) (A4 : Option Addr) (l4 : List S33) (c4 : Nat) (A5 : Option Addr) (l5 : List S28) (c5 : Nat) (q : Bool) (w : World), SizeOf.sizeOf l5 < n → Tabs w →
  Kd.C Kd.string w A3 l3.length l3 → Kd.C k33 w A4 l4.length l4 → l4.length ≤ c4 → Kd.C k28 w A5 l5.length l5 → l5.length ≤ c5 → wtB ⟨k, lv, s, l3, l4, l5⟩ ≤ 1000000 →
  Calls Tryd.prog 20 #[.agg #[.int .i64 k, .int .i64 lv, .string s, .slice A3 l3.length c3, .slice A4 l4.length c4, .slice A5 l5.length c5], .bool q] w fun e w' => e = .returned (.bool (oneB ⟨k, lv, s, l3, l4, l5⟩ q)) ∧ Below w.heap.size w w'
def AllOk (n : Nat) : Prop := ∀ (A : Option Addr) (c : Nat) (l : List S28) (q : Bool) (w : World), SizeOf.sizeOf l < n → Tabs w → Kd.C k28 w A l.length l → l.length ≤ c → wtBL l ≤ 1000000 →
  Calls Tryd.prog 14 #[.slice A l.length c, .bool q] w fun e w' => e = .returned (.bool (allB l 0 q)) ∧ Below w.heap.size w w'
theorem one_of_all (n : Nat) (H : AllOk n) : OneOk n := by
  intro k lv s A3 l3 c3 A4 l4 c4 A5 l5 c5 q w hn hT hr3 hr4 hc4 hr5 hc5 hw
  rw [wtB_eq] at hw
  rw [oneB_eq]
  by_cases hq : decide (k = 7) = q
  · have hqb : (decide (k = 7) == q) = true := beq_iff_eq.2 hq
    show Calls _ _ _ _ fun e w' => e = .returned (.bool ((decide (k = 7) == q) && _)) ∧ _
    rw [hqb, Bool.true_and]
    by_cases hc : k = 5 ∨ k = 6 ∨ k = 7
    · rw [if_pos hc]
      have cOf : OfIs lv s A3 l3.length c3 A4 l4.length c4 A5 l5.length c5 w (!decide (lv = 0)) (!(L s).isEmpty) (!l3.isEmpty) (!l4.isEmpty) (decide (0 < l5.length)) k := by
        intro W hW
        have c := of_calls lv s A3 l3.length c3 A4 l4.length c4 A5 l5.length c5 W k
        rw [ne_zero, ne_empty, some_more l3, some_more l4] at c
        exact c
      have cA : Says w 14 #[.slice A5 l5.length c5, .bool (decide (k = 6))] (.bool (allB l5 0 (decide (k = 6)))) := fun W hW => H A5 c5 l5 _ W hn (Tabs.at hT hW) (Kd.C_below hr5 hW) hc5 (by simp only at hw; omega)
      refine (one_cont _ _ _ _ _ _ _ _ _ _ _ w k q (decide (k = 6)) hq rfl hc _ _ _ _ _ cOf cA).mono ?_
      rintro e w' ⟨rfl, hb⟩
      refine ⟨?_, hb⟩
      have hk : decide (k ≠ 6) = !decide (k = 6) := by by_cases h : k = 6 <;> simp [h]
      show _ = Ending.returned (Value.bool (decide (lv = 0) && (L s).isEmpty && l3.isEmpty && l4.isEmpty && (decide (k ≠ 6) || !l5.isEmpty) && allB l5 0 (decide (k = 6))))
      rw [hk, some_more]
      simp only [Bool.not_not, Bool.and_assoc]
    · rw [if_neg hc]
      have h7 : k ≠ 7 := fun h => hc (Or.inr (Or.inr h))
      rw [decide_eq_false h7] at hq
      subst hq
      have cL : Says w 25 #[.agg #[.int .i64 k, .int .i64 lv, .string s, .slice A3 l3.length c3, .slice A4 l4.length c4, .slice A5 l5.length c5]] (.bool (leafV k lv s l3 l4 l5)) := fun W hW => leaf_calls k lv s A3 l3 c3 A4 l4 c4 A5 l5 c5 W (Tabs.at hT hW) (Kd.C_below hr3 hW) (Kd.C_below hr4 hW) hc4 (by simp only at hw; omega) (by simp only at hw; omega) (by simp only at hw; omega)
      exact one_leaf _ _ _ _ _ _ _ _ _ _ _ w k (fun h => hc (Or.inl h)) (fun h => hc (Or.inr (Or.inl h))) h7 _ cL
  · have hqb : (decide (k = 7) == q) = false := beq_eq_false_iff_ne.2 hq
    show Calls _ _ _ _ fun e w' => e = .returned (.bool ((decide (k = 7) == q) && _)) ∧ _
    rw [hqb, Bool.false_and]
    exact one_kind _ _ _ _ _ _ _ _ _ _ _ w k q hq
theorem kids_lt_B (l : List S28) (i : Nat) (h : i < l.length) : SizeOf.sizeOf (l[i]).f5 < SizeOf.sizeOf l := by
  have h1 := List.sizeOf_lt_of_mem (List.getElem_mem h)
  generalize l[i] = x at h1 ⊢
  obtain ⟨a, b, c, d, e, f⟩ := x
  have := S28.mk.sizeOf_spec a b c d e f
  show SizeOf.sizeOf f < _
  omega
theorem wtB_at (l : List S28) (i : Nat) (h : i < l.length) : wtB l[i] ≤ wtBL l := by
  induction l generalizing i with
  | nil => simp at h
  | cons x t ih =>
    rw [wtBL_cons]
    cases i with
    | zero => simp
    | succ i =>
      have := ih i (by simpa using h)
      simp only [List.getElem_cons_succ]
      omega
theorem allB_at (l : List S28) (i : Nat) (h : i < l.length) (last : Int) (q : Bool) : allB (l.drop i) last q = (!(decide ((l[i]).f0 = 6) && decide (last = 6)) && oneB l[i] q && allB (l.drop (i + 1)) (l[i]).f0 q) := by
  rw [List.drop_eq_getElem_cons h, allB_cons]
set_option maxHeartbeats 8000000 in
set_option maxRecDepth 1000000 in
theorem all_of_one (n : Nat) (H : OneOk n) : AllOk (n + 1) := by
  intro A c l q w hn hT hr hc hw
  have hm : l.length ≤ 9223372036854775807 := hr.2.1
  go_enter Tryd.func14, Tryd.ntmps14
  go_wp2
  go_loopw [5, 10] (fun v5 v10 wr => ∃ (i : Nat) (last : Int), v5 = .int .i64 last ∧ v10 = .int .i64 (i : Int) ∧ i ≤ l.length ∧ allB (l.drop i) last q = allB l 0 q ∧ Below w.heap.size w wr) (fun _ v10 _ => l.length - (intOf v10).toNat)
  case atStart => exact ⟨0, 0, rfl, rfl, Nat.zero_le _, rfl, Below.refl _ _⟩
  case round =>
    obtain ⟨i, last, rfl, rfl, hi, hS, hbw⟩ := hrel
    by_cases hlt : i < l.length
    · obtain ⟨ad, A3, c3, A4, c4, A5, c5, rfl, hx0, hx1, hx2, hx3, hx4, hx5, hl3, hk3, hl4, hk4, hl5, hk5⟩ := at_T28 hr (i : Int) (by omega) (by omega)
      have hd : decide ((i : Int) < (l.length : Int)) = true := decide_eq_true (by omega)
      have hi0 : ((0 : Int) ≤ (i : Int)) = True := eq_true (by omega)
      have hi1 : ((i : Int) < (l.length : Int)) = True := eq_true (by omega)
      have hx : rd_T28 l (i : Int) = l[i] := by unfold rd_T28; simp [List.getD, hlt]
      rw [hx] at hx0 hx1 hx2 hx3 hx4 hx5 hl3 hk3 hl4 hk4 hl5 hk5
      rw [Int.toNat_natCast] at hx0 hx1 hx2 hx3 hx4 hx5
      have hy0 := (hbw.cell (World.block_lt_of_cell? w _ hx0)).trans hx0
      have hy1 := (hbw.cell (World.block_lt_of_cell? w _ hx1)).trans hx1
      have hy2 := (hbw.cell (World.block_lt_of_cell? w _ hx2)).trans hx2
      have hy3 := (hbw.cell (World.block_lt_of_cell? w _ hx3)).trans hx3
      have hy4 := (hbw.cell (World.block_lt_of_cell? w _ hx4)).trans hx4
      have hy5 := (hbw.cell (World.block_lt_of_cell? w _ hx5)).trans hx5
      clear hx0 hx1 hx2 hx3 hx4 hx5 hx
      have hsm := kids_lt_B l i hlt
      have hwt := wtB_at l i hlt
      have hstep := allB_at l i hlt last q
      generalize l[i] = x at hy0 hy1 hy2 hy3 hy4 hy5 hl3 hk3 hl4 hk4 hl5 hk5 hsm hwt hstep
      obtain ⟨f0, f1, f2, f3, f4, f5⟩ := x
      dsimp only at hy0 hy1 hy2 hy3 hy4 hy5 hl3 hk3 hl4 hk4 hl5 hk5 hsm hstep
      have c1 : ∀ W : World, Below w.heap.size w W → Calls Tryd.prog 20 #[.agg #[.int .i64 f0, .int .i64 f1, .string f2, .slice A3 f3.length c3, .slice A4 f4.length c4, .slice A5 f5.length c5], .bool q] W fun e w' => e = .returned (.bool (oneB ⟨f0, f1, f2, f3, f4, f5⟩ q)) ∧ Below W.heap.size W w' := fun W hW => H f0 f1 f2 A3 f3 c3 A4 f4 c4 A5 f5 c5 q W (by omega) (Tabs.at hT hW) (Kd.C_below hk3 hW) (Kd.C_below hk4 hW) hl4 (Kd.C_below hk5 hW) hl5 (by omega)
      rw [hS] at hstep
      clear hr hk3 hk4 hk5 hl3 hl4 hl5 hsm hwt hS H hT hn hw
      have hBo : ∀ o, Below w.heap.size w (wr.alloc o) := fun o => hbw.alloc hbw.size o
      generalize oneB ⟨f0, f1, f2, f3, f4, f5⟩ q = b at c1 hstep
      generalize f3.length = n3 at *
      generalize f4.length = n4 at *
      generalize f5.length = n5 at *
      have HS := Aside0.mk hstep
      clear hstep
      by_cases h6 : f0 = 6
      · have e6 : (f0 == 6) = true := beq_iff_eq.2 h6
        by_cases hl6 : last = 6
        · have el : (last == 6) = true := beq_iff_eq.2 hl6
          have ha : (decide (f0 = 6) && decide (last = 6)) = true := by rw [decide_eq_true h6, decide_eq_true hl6]; rfl
          clear h6 hl6
          go_wp2_with fail
          go_ret
          exact ⟨by rw [HS.out]; simp only [ha, Bool.not_true, Bool.false_and]; rfl, hBo _⟩
        · have el : (last == 6) = false := beq_eq_false_iff_ne.2 hl6
          have ha : (decide (f0 = 6) && decide (last = 6)) = false := by rw [decide_eq_false hl6, Bool.and_false]
          clear h6 hl6
          cases b with
          | true =>
            go_wp2_with (go_at_call 20; refine (c1 _ (hBo _)).mono ?_; rintro e w1 ⟨rfl, hb1⟩; have hb2 := (hBo (.cells #[.int .i64 f0, .int .i64 f1, .string f2, .slice A3 n3 c3, .slice A4 n4 c4, .slice A5 n5 c5] 28)).trans (Below.mono hb1 (hBo _).size); have hk1 := blk_below (blk_new wr _) hb1; obtain ⟨z0, z1, z2, z3, z4, z5⟩ := box_cells hk1)
            go_roundw
            case rel => exact ⟨i + 1, f0, rfl, congrArg _ (by omega), by omega, by rw [HS.out]; simp only [ha, Bool.not_false, Bool.true_and], hb2⟩
            case measure => simp [intOf]; omega
          | false =>
            go_wp2_with (go_at_call 20; refine (c1 _ (hBo _)).mono ?_; rintro e w1 ⟨rfl, hb1⟩; have hb2 := (hBo (.cells #[.int .i64 f0, .int .i64 f1, .string f2, .slice A3 n3 c3, .slice A4 n4 c4, .slice A5 n5 c5] 28)).trans (Below.mono hb1 (hBo _).size); have hk1 := blk_below (blk_new wr _) hb1; obtain ⟨z0, z1, z2, z3, z4, z5⟩ := box_cells hk1)
            go_ret
            exact ⟨by rw [HS.out]; simp only [ha, Bool.not_false, Bool.true_and, Bool.false_and]; rfl, hb2⟩
      · have e6 : (f0 == 6) = false := beq_eq_false_iff_ne.2 h6
        have ha : (decide (f0 = 6) && decide (last = 6)) = false := by rw [decide_eq_false h6, Bool.false_and]
        clear h6
        cases b with
        | true =>
          go_wp2_with (go_at_call 20; refine (c1 _ (hBo _)).mono ?_; rintro e w1 ⟨rfl, hb1⟩; have hb2 := (hBo (.cells #[.int .i64 f0, .int .i64 f1, .string f2, .slice A3 n3 c3, .slice A4 n4 c4, .slice A5 n5 c5] 28)).trans (Below.mono hb1 (hBo _).size); have hk1 := blk_below (blk_new wr _) hb1; obtain ⟨z0, z1, z2, z3, z4, z5⟩ := box_cells hk1)
          go_roundw
          case rel => exact ⟨i + 1, f0, rfl, congrArg _ (by omega), by omega, by rw [HS.out]; simp only [ha, Bool.not_false, Bool.true_and], hb2⟩
          case measure => simp [intOf]; omega
        | false =>
          go_wp2_with (go_at_call 20; refine (c1 _ (hBo _)).mono ?_; rintro e w1 ⟨rfl, hb1⟩; have hb2 := (hBo (.cells #[.int .i64 f0, .int .i64 f1, .string f2, .slice A3 n3 c3, .slice A4 n4 c4, .slice A5 n5 c5] 28)).trans (Below.mono hb1 (hBo _).size); have hk1 := blk_below (blk_new wr _) hb1; obtain ⟨z0, z1, z2, z3, z4, z5⟩ := box_cells hk1)
          go_ret
          exact ⟨by rw [HS.out]; simp only [ha, Bool.not_false, Bool.true_and, Bool.false_and]; rfl, hb2⟩
    · have hd : decide ((i : Int) < (l.length : Int)) = false := decide_eq_false (by omega)
      rw [List.drop_eq_nil_of_le (by omega)] at hS
      have HS := Aside0.mk hS
      clear hS
      go_wp2
      go_ret
      exact ⟨by rw [← HS.out]; simp [allB], hbw⟩
theorem all_ok : ∀ n, AllOk n := by
  intro n
  induction n with
  | zero => intro A c l q w h; omega
  | succ n ih => exact all_of_one n (one_of_all n ih)
/-- tree.all, of blocks up to a size. -/
def tree_all.f (l0 : List S28) (a1 : Bool) : Option Bool := if wtBL l0 ≤ 1000000 then some (allB l0 0 a1) else none
theorem tree_all.calls (A0 : Option Addr) (c0 : Nat) (l0 : List S28) (a1 : Bool) (r : Bool) (w : World) (hT : Tabs w) (hr0 : Kd.C k28 w A0 l0.length l0) (hc0 : l0.length ≤ c0) (h : tree_all.f l0 a1 = some r) :
    Calls Tryd.prog 14 #[.slice A0 l0.length c0, .bool a1] w fun e w' => e = .returned (.bool r) ∧ Below w.heap.size w w' := by
  unfold tree_all.f at h
  by_cases hw : wtBL l0 ≤ 1000000
  · rw [if_pos hw] at h
    obtain rfl := Option.some.inj h
    exact all_ok _ A0 c0 l0 a1 w (Nat.lt_succ_self _) hT hr0 hc0 hw
  · rw [if_neg hw] at h; cases h
end Go.Proofs.YtbbkjdcpmhpkjaaDoor.G
