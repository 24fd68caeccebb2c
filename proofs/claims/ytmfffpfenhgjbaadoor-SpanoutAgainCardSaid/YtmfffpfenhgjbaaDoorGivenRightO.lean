/- The walk of span's within.one: whether a span can be. -/
import Derived.Test.YtmfffpfenhgjbaaDoorX1
import Derived.Test.YtmfffpfenhgjbaaDoorX2
import Derived.Test.YtmfffpfenhgjbaaDoorGivenDest
import Derived.Test.YtmfffpfenhgjbaaDoorGivenStrs
import Derived.Test.YtmfffpfenhgjbaaDoorGivenAC
import Derived.Lib.IndexAny
import Derived.Outline
set_option linter.unusedVariables false
set_option linter.unusedSimpArgs false
namespace Go.Proofs.YtmfffpfenhgjbaaDoor.G
open Go.RowKit Go.Lib Go.Proofs Go.Proofs.YtmfffpfenhgjbaaDoor.X Go.Proofs.YtmfffpfenhgjbaaDoorW.PrintWords Go.Proofs.YtmfffpfenhgjbaaDoorW.PrintLast Go.Proofs.YtmfffpfenhgjbaaDoorW.PrintMore
theorem box_two {w : World} {g : Nat} {a b : Value} {t : TypeId} (h : w.heap[g]? = some (.cells #[a, b] t (0, 0))) : w.cell? ⟨g, 0, none⟩ = some a ∧ w.cell? ⟨g, 1, none⟩ = some b := ⟨blk_cell h 0, blk_cell h 1⟩
theorem box_three {w : World} {g : Nat} {a b c : Value} {t : TypeId} (h : w.heap[g]? = some (.cells #[a, b, c] t (0, 0))) : w.cell? ⟨g, 0, none⟩ = some a ∧ w.cell? ⟨g, 1, none⟩ = some b ∧ w.cell? ⟨g, 2, none⟩ = some c := ⟨blk_cell h 0, blk_cell h 1, blk_cell h 2⟩
theorem alloc_size (w : World) (o : Obj) : (w.alloc o).heap.size = w.heap.size + 1 := by simp
section
variable (w : World) (e m : Bool) (k : Int) (s : ByteArray) (A2 : Option Addr) (n2 c2 : Nat)
def SaysR (f : FuncId) (args : Array Value) (v : Value) : Prop := ∀ W, Below w.heap.size w W → Calls Tryd.prog f args W fun e w' => e = .returned v ∧ Below W.heap.size W w'
def SaysU (u : Int) : Prop := ∀ W, Below w.heap.size w W → Calls Tryd.prog 45 #[.slice (some ⟨W.heap.size, 0, none⟩) s.size (grownCap W s.size 0 5)] (Lib.bytesWorld W 5 s) fun e w' => e = .returned (.int .i64 u) ∧ Below W.heap.size W w'
/-- Behind the check of the bytes: both boxes stand. -/
theorem boxes_kept {w w2 : World} {o o2 : Obj} (hb : Below ((w.alloc o).alloc o2).heap.size ((w.alloc o).alloc o2) w2) : Below w.heap.size w w2 ∧ w2.heap[w.heap.size]? = some o ∧ w2.heap[w.heap.size + 1]? = some o2 := by
  have h1 : Below w.heap.size w ((w.alloc o).alloc o2) := ((Below.refl _ w).alloc (Nat.le_refl _) o).alloc ((Below.refl _ w).alloc (Nat.le_refl _) o).size o2
  refine ⟨h1.trans (Below.mono hb h1.size), blk_below (blk_alloc (blk_new w o) o2) hb, ?_⟩
  have := blk_below (blk_new (w.alloc o) o2) hb
  rwa [alloc_size] at this
theorem SaysU.at {w : World} {s : ByteArray} {u : Int} (cU : SaysU w s u) (o o2 : Obj) : Calls Tryd.prog 45 #[.slice (some ⟨w.heap.size + 1 + 1, 0, none⟩) s.size (grownCap ((w.alloc o).alloc o2) s.size 0 5)] (Lib.bytesWorld ((w.alloc o).alloc o2) 5 s) fun e w' => e = .returned (.int .i64 u) ∧ Below w.heap.size w w' ∧ w'.heap[w.heap.size]? = some o ∧ w'.heap[w.heap.size + 1]? = some o2 := by
  have h1 : Below w.heap.size w ((w.alloc o).alloc o2) := ((Below.refl _ w).alloc (Nat.le_refl _) o).alloc ((Below.refl _ w).alloc (Nat.le_refl _) o).size o2
  have c := cU _ h1
  rw [alloc_size, alloc_size] at c
  refine c.mono ?_
  rintro e w' ⟨rfl, hb⟩
  exact ⟨rfl, boxes_kept (by rw [alloc_size, alloc_size]; exact hb)⟩
set_option maxHeartbeats 8000000 in
set_option maxRecDepth 1000000 in
theorem one_bad (u : Int) (hu : u ≠ 0) (cU : SaysU w s u) :
    Calls Tryd.prog 62 #[.agg #[.bool e, .bool m], .agg #[.int .i64 k, .string s, .slice A2 n2 c2]] w fun x w' => x = .returned (.bool false) ∧ Below w.heap.size w w' := by
  have hcv := fun W (t : ByteArray) => Lib.run_convert_string_bytes (P := Tryd.prog) W 9 54 5 t Tryd.underlying9 Tryd.underlying54 Tryd.underlying5
  have eu : (u != 0) = true := bne_iff_ne.2 hu
  clear hu
  go_enter Tryd.func62, Tryd.ntmps62
  go_wp2_with fail
  refine (cU.at _ _).mono ?_
  rintro x w1 ⟨rfl, hb1, g1, g2⟩
  obtain ⟨p0, p1⟩ := box_two g1
  obtain ⟨q0, q1, q2⟩ := box_three g2
  clear g1 g2
  go_wp2_with fail
  go_ret
  exact ⟨rfl, hb1⟩
set_option maxHeartbeats 8000000 in
set_option maxRecDepth 1000000 in
theorem one_none (h1 : k ≠ 1) (h2 : k ≠ 2) (h3 : k ≠ 3) (h4 : k ≠ 4) (cU : SaysU w s 0) :
    Calls Tryd.prog 62 #[.agg #[.bool e, .bool m], .agg #[.int .i64 k, .string s, .slice A2 n2 c2]] w fun x w' => x = .returned (.bool false) ∧ Below w.heap.size w w' := by
  have hcv := fun W (t : ByteArray) => Lib.run_convert_string_bytes (P := Tryd.prog) W 9 54 5 t Tryd.underlying9 Tryd.underlying54 Tryd.underlying5
  have e1 : (k == 1) = false := beq_eq_false_iff_ne.2 h1
  have e2 : (k == 2) = false := beq_eq_false_iff_ne.2 h2
  have e3 : (k == 3) = false := beq_eq_false_iff_ne.2 h3
  have e4 : (k == 4) = false := beq_eq_false_iff_ne.2 h4
  clear h1 h2 h3 h4
  go_enter Tryd.func62, Tryd.ntmps62
  go_wp2_with fail
  refine (cU.at _ _).mono ?_
  rintro x w1 ⟨rfl, hb1, g1, g2⟩
  obtain ⟨p0, p1⟩ := box_two g1
  obtain ⟨q0, q1, q2⟩ := box_three g2
  clear g1 g2
  go_wp2_with fail
  go_ret
  exact ⟨rfl, hb1⟩
set_option maxHeartbeats 8000000 in
set_option maxRecDepth 1000000 in
theorem one_words (t : Bool) (cU : SaysU w s 0) (cT : SaysR w 87 #[.string s] (.bool t)) :
    Calls Tryd.prog 62 #[.agg #[.bool e, .bool m], .agg #[.int .i64 1, .string s, .slice A2 n2 c2]] w fun x w' => x = .returned (.bool (decide ((n2 : Int) = 0) && t)) ∧ Below w.heap.size w w' := by
  have hcv := fun W (t : ByteArray) => Lib.run_convert_string_bytes (P := Tryd.prog) W 9 54 5 t Tryd.underlying9 Tryd.underlying54 Tryd.underlying5
  go_enter Tryd.func62, Tryd.ntmps62
  go_wp2_with fail
  refine (cU.at _ _).mono ?_
  rintro x w1 ⟨rfl, hb1, g1, g2⟩
  obtain ⟨p0, p1⟩ := box_two g1
  obtain ⟨q0, q1, q2⟩ := box_three g2
  have c1 := cT w1 hb1
  by_cases hn : n2 = 0
  · subst hn
    go_wp2_with fail
    refine c1.mono ?_
    rintro x w2 ⟨rfl, hb2⟩
    have z1 := blk_cell (blk_below g2 hb2) 1
    go_wp2_with fail
    go_ret
    exact ⟨by simp, hb1.trans (Below.mono hb2 hb1.size)⟩
  · have en : ((n2 : Int) == 0) = false := beq_eq_false_iff_ne.2 (by omega)
    have ed : decide ((n2 : Int) = 0) = false := decide_eq_false (by omega)
    clear hn
    go_wp2_with fail
    go_ret
    exact ⟨by rw [ed]; rfl, hb1⟩
set_option maxHeartbeats 8000000 in
set_option maxRecDepth 1000000 in
theorem one_code (t : Bool) (cU : SaysU w s 0) (cT : SaysR w 88 #[.string s, .string ⟨#[13, 10]⟩] (.bool t)) :
    Calls Tryd.prog 62 #[.agg #[.bool e, .bool m], .agg #[.int .i64 2, .string s, .slice A2 n2 c2]] w fun x w' => x = .returned (.bool (decide ((n2 : Int) = 0) && (!decide (s.toList = []) && !t))) ∧ Below w.heap.size w w' := by
  have hcv := fun W (t : ByteArray) => Lib.run_convert_string_bytes (P := Tryd.prog) W 9 54 5 t Tryd.underlying9 Tryd.underlying54 Tryd.underlying5
  go_enter Tryd.func62, Tryd.ntmps62
  go_wp2_with fail
  refine (cU.at _ _).mono ?_
  rintro x w1 ⟨rfl, hb1, g1, g2⟩
  obtain ⟨p0, p1⟩ := box_two g1
  obtain ⟨q0, q1, q2⟩ := box_three g2
  have c1 := cT w1 hb1
  by_cases hn : n2 = 0
  · subst hn
    by_cases hs : s.toList = []
    · go_wp2_with fail
      go_ret
      exact ⟨by rw [decide_eq_true hs]; rfl, hb1⟩
    · go_wp2_with fail
      refine c1.mono ?_
      rintro x w2 ⟨rfl, hb2⟩
      have z1 := blk_cell (blk_below g2 hb2) 1
      go_wp2_with fail
      go_ret
      exact ⟨by rw [decide_eq_false hs]; (try rw [decide_eq_true rfl]); (first | rfl | (have he : s.toList.isEmpty = false := (by cases h : s.toList with | nil => exact absurd h hs | cons => rfl); rw [he]; rfl)), hb1.trans (Below.mono hb2 hb1.size)⟩
  · have en : ((n2 : Int) == 0) = false := beq_eq_false_iff_ne.2 (by omega)
    have ed : decide ((n2 : Int) = 0) = false := decide_eq_false (by omega)
    clear hn
    go_wp2_with fail
    go_ret
    exact ⟨by rw [ed]; rfl, hb1⟩
set_option maxHeartbeats 8000000 in
set_option maxRecDepth 1000000 in
theorem one_emph (a : Bool) (cU : SaysU w s 0) (cA : SaysR w 41 #[.agg #[.bool true, .bool m], .slice A2 n2 c2] (.bool a)) :
    Calls Tryd.prog 62 #[.agg #[.bool e, .bool m], .agg #[.int .i64 3, .string s, .slice A2 n2 c2]] w fun x w' => x = .returned (.bool (decide (s.toList = []) && (decide ((n2 : Int) > 0) && (!e && a)))) ∧ Below w.heap.size w w' := by
  have hcv := fun W (t : ByteArray) => Lib.run_convert_string_bytes (P := Tryd.prog) W 9 54 5 t Tryd.underlying9 Tryd.underlying54 Tryd.underlying5
  go_enter Tryd.func62, Tryd.ntmps62
  go_wp2_with fail
  refine (cU.at _ _).mono ?_
  rintro x w1 ⟨rfl, hb1, g1, g2⟩
  obtain ⟨p0, p1⟩ := box_two g1
  obtain ⟨q0, q1, q2⟩ := box_three g2
  have c1 := cA w1 hb1
  by_cases hs : s.toList = []
  · have hs' : decide (s.toList = []) = true := decide_eq_true hs
    by_cases hn : n2 = 0
    · subst hn
      go_wp2_with fail
      go_ret
      exact ⟨by simp, hb1⟩
    · have ed : decide ((n2 : Int) > 0) = true := decide_eq_true (by omega)
      have ed2 : decide (0 < n2) = true := decide_eq_true (by omega)
      have ed3 : (0 < n2) = True := eq_true (by omega)
      cases e with
      | true =>
        clear hn
        go_wp2_with fail
        go_ret
        exact ⟨by simp, hb1⟩
      | false =>
        clear hn
        go_wp2_with fail
        refine c1.mono ?_
        rintro x w2 ⟨rfl, hb2⟩
        go_wp2_with fail
        go_ret
        exact ⟨by rw [hs', ed]; simp, hb1.trans (Below.mono hb2 hb1.size)⟩
  · have hs' : decide (s.toList = []) = false := decide_eq_false hs
    go_wp2_with fail
    go_ret
    exact ⟨by rw [hs']; rfl, hb1⟩
set_option maxHeartbeats 8000000 in
set_option maxRecDepth 1000000 in
theorem one_link (d a : Bool) (cU : SaysU w s 0) (cD : SaysR w 89 #[.string s] (.bool d)) (cA : SaysR w 41 #[.agg #[.bool e, .bool true], .slice A2 n2 c2] (.bool a)) :
    Calls Tryd.prog 62 #[.agg #[.bool e, .bool m], .agg #[.int .i64 4, .string s, .slice A2 n2 c2]] w fun x w' => x = .returned (.bool (d && (decide ((n2 : Int) > 0) && (!m && a)))) ∧ Below w.heap.size w w' := by
  have hcv := fun W (t : ByteArray) => Lib.run_convert_string_bytes (P := Tryd.prog) W 9 54 5 t Tryd.underlying9 Tryd.underlying54 Tryd.underlying5
  go_enter Tryd.func62, Tryd.ntmps62
  go_wp2_with fail
  refine (cU.at _ _).mono ?_
  rintro x w1 ⟨rfl, hb1, g1, g2⟩
  obtain ⟨p0, p1⟩ := box_two g1
  obtain ⟨q0, q1, q2⟩ := box_three g2
  go_wp2_with fail
  refine (cD w1 hb1).mono ?_
  rintro x w2 ⟨rfl, hb2⟩
  have hb3 := hb1.trans (Below.mono hb2 hb1.size)
  have c1 := cA w2 hb3
  obtain ⟨y0, y1⟩ := box_two (blk_below g1 hb2)
  obtain ⟨z0, z1, z2⟩ := box_three (blk_below g2 hb2)
  clear p0 p1 q0 q1 q2
  cases d with
  | false =>
    go_wp2_with fail
    go_ret
    exact ⟨by simp, hb3⟩
  | true =>
    by_cases hn : n2 = 0
    · subst hn
      go_wp2_with fail
      go_ret
      exact ⟨by simp, hb3⟩
    · have ed : decide ((n2 : Int) > 0) = true := decide_eq_true (by omega)
      have ed2 : decide (0 < n2) = true := decide_eq_true (by omega)
      have ed3 : (0 < n2) = True := eq_true (by omega)
      cases m with
      | true =>
        clear hn
        go_wp2_with fail
        go_ret
        exact ⟨by simp, hb3⟩
      | false =>
        clear hn
        go_wp2_with fail
        refine c1.mono ?_
        rintro x w3 ⟨rfl, hb4⟩
        go_wp2_with fail
        go_ret
        exact ⟨by rw [ed]; simp, hb3.trans (Below.mono hb4 hb3.size)⟩
end
end Go.Proofs.YtmfffpfenhgjbaaDoor.G
