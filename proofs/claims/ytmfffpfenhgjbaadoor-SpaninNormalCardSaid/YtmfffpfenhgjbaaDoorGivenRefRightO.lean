/- The walk of the reference's one: whether a span can be. -/
import Derived.Test.YtmfffpfenhgjbaaDoorGivenRightO
import Derived.Test.YtmfffpfenhgjbaaDoorX4
import Derived.Test.YtmfffpfenhgjbaaDoorX5
set_option linter.unusedVariables false
set_option linter.unusedSimpArgs false
namespace Go.Proofs.YtmfffpfenhgjbaaDoor.G
open Go.RowKit Go.Lib Go.Proofs Go.Proofs.YtmfffpfenhgjbaaDoor.X Go.Proofs.YtmfffpfenhgjbaaDoorW.PrintWords Go.Proofs.YtmfffpfenhgjbaaDoorW.PrintLast Go.Proofs.YtmfffpfenhgjbaaDoorW.PrintMore
theorem below_drawn_ {w w1 w2 : World} (h : Below w.heap.size w w1) (d : Drawn0 w1 w2) : Below w.heap.size w w2 := h.trans (Below.mono d.below h.size)
section
variable (w : World) (e m : Bool) (k : Int) (s : ByteArray) (A2 : Option Addr) (n2 c2 : Nat)
/-- A call that answers so, and draws at most. -/
def SaysD (f : FuncId) (args : Array Value) (v : Value) : Prop := ∀ W, Calls Tryd.prog f args W fun e w' => e = .returned v ∧ Drawn0 W w'
/-- Behind the check of the bytes: the box stands. -/
theorem SaysD.at {w : World} {f : FuncId} {args : Array Value} {v : Value} (cU : SaysD f args v) (o : Obj) : Calls Tryd.prog f args (w.alloc o) fun e w' => e = .returned v ∧ Below w.heap.size w w' ∧ w'.heap[w.heap.size]? = some o := by
  refine (cU (w.alloc o)).mono ?_
  rintro e w' ⟨rfl, hd⟩
  exact ⟨rfl, below_drawn_ ((Below.refl _ w).alloc (Nat.le_refl _) o) hd, blk_below (blk_new w o) hd.below⟩
set_option maxHeartbeats 8000000 in
set_option maxRecDepth 1000000 in
theorem ref_one_bad (u : Int) (hu : u ≠ 0) (cU : SaysD 49 #[.string s] (.int .i64 u)) :
    Calls Tryd.prog 77 #[.agg #[.int .i64 k, .string s, .slice A2 n2 c2], .bool e, .bool m] w fun x w' => x = .returned (.bool false) ∧ Below w.heap.size w w' := by
  have eu : (u != 0) = true := bne_iff_ne.2 hu
  clear hu
  go_enter Tryd.func77, Tryd.ntmps77
  go_wp2_with fail
  refine (cU.at _).mono ?_
  rintro x w1 ⟨rfl, hb1, g2⟩
  obtain ⟨q0, q1, q2⟩ := box_three g2
  clear g2
  go_wp2_with fail
  go_ret
  exact ⟨rfl, hb1⟩
set_option maxHeartbeats 8000000 in
set_option maxRecDepth 1000000 in
theorem ref_one_none (h1 : k ≠ 1) (h2 : k ≠ 2) (h3 : k ≠ 3) (h4 : k ≠ 4) (cU : SaysD 49 #[.string s] (.int .i64 0)) :
    Calls Tryd.prog 77 #[.agg #[.int .i64 k, .string s, .slice A2 n2 c2], .bool e, .bool m] w fun x w' => x = .returned (.bool false) ∧ Below w.heap.size w w' := by
  have e1 : (k == 1) = false := beq_eq_false_iff_ne.2 h1
  have e2 : (k == 2) = false := beq_eq_false_iff_ne.2 h2
  have e3 : (k == 3) = false := beq_eq_false_iff_ne.2 h3
  have e4 : (k == 4) = false := beq_eq_false_iff_ne.2 h4
  clear h1 h2 h3 h4
  go_enter Tryd.func77, Tryd.ntmps77
  go_wp2_with fail
  refine (cU.at _).mono ?_
  rintro x w1 ⟨rfl, hb1, g2⟩
  obtain ⟨q0, q1, q2⟩ := box_three g2
  clear g2
  go_wp2_with fail
  go_ret
  exact ⟨rfl, hb1⟩
set_option maxHeartbeats 8000000 in
set_option maxRecDepth 1000000 in
theorem ref_one_words (t : Bool) (cU : SaysD 49 #[.string s] (.int .i64 0)) (cT : SaysD 109 #[.string s] (.bool t)) :
    Calls Tryd.prog 77 #[.agg #[.int .i64 1, .string s, .slice A2 n2 c2], .bool e, .bool m] w fun x w' => x = .returned (.bool (decide ((n2 : Int) = 0) && t)) ∧ Below w.heap.size w w' := by
  go_enter Tryd.func77, Tryd.ntmps77
  go_wp2_with fail
  refine (cU.at _).mono ?_
  rintro x w1 ⟨rfl, hb1, g2⟩
  obtain ⟨q0, q1, q2⟩ := box_three g2
  by_cases hn : n2 = 0
  · subst hn
    go_wp2_with fail
    refine (cT w1).mono ?_
    rintro x w2 ⟨rfl, hd2⟩
    go_wp2_with fail
    go_ret
    exact ⟨by simp, below_drawn_ hb1 hd2⟩
  · have en : ((n2 : Int) == 0) = false := beq_eq_false_iff_ne.2 (by omega)
    have ed : decide ((n2 : Int) = 0) = false := decide_eq_false (by omega)
    clear hn
    go_wp2_with fail
    go_ret
    exact ⟨by rw [ed]; rfl, hb1⟩
set_option maxHeartbeats 8000000 in
set_option maxRecDepth 1000000 in
theorem ref_one_code (t t2 : Bool) (cU : SaysD 49 #[.string s] (.int .i64 0)) (cT : SaysD 110 #[.string s, .int .u8 10] (.bool t)) (cT2 : SaysD 110 #[.string s, .int .u8 13] (.bool t2)) :
    Calls Tryd.prog 77 #[.agg #[.int .i64 2, .string s, .slice A2 n2 c2], .bool e, .bool m] w fun x w' => x = .returned (.bool (decide ((n2 : Int) = 0) && (!decide (s.toList = []) && (!t && !t2)))) ∧ Below w.heap.size w w' := by
  go_enter Tryd.func77, Tryd.ntmps77
  go_wp2_with fail
  refine (cU.at _).mono ?_
  rintro x w1 ⟨rfl, hb1, g2⟩
  obtain ⟨q0, q1, q2⟩ := box_three g2
  by_cases hn : n2 = 0
  · subst hn
    by_cases hs : s.toList = []
    · go_wp2_with fail
      go_ret
      exact ⟨by rw [decide_eq_true hs]; rfl, hb1⟩
    · have hs' : decide (s.toList = []) = false := decide_eq_false hs
      go_wp2_with fail
      refine (cT w1).mono ?_
      rintro x w2 ⟨rfl, hd2⟩
      have hb2 := below_drawn_ hb1 hd2
      obtain ⟨y0, y1, y2⟩ := box_three (blk_below g2 hd2.below)
      cases t with
      | true =>
        go_wp2_with fail
        go_ret
        exact ⟨by rw [hs']; (first | rfl | simp), hb2⟩
      | false =>
        go_wp2_with fail
        refine (cT2 w2).mono ?_
        rintro x w3 ⟨rfl, hd3⟩
        go_wp2_with fail
        go_ret
        exact ⟨by simp [hs], below_drawn_ hb2 hd3⟩
  · have en : ((n2 : Int) == 0) = false := beq_eq_false_iff_ne.2 (by omega)
    have ed : decide ((n2 : Int) = 0) = false := decide_eq_false (by omega)
    clear hn
    go_wp2_with fail
    go_ret
    exact ⟨by rw [ed]; rfl, hb1⟩
set_option maxHeartbeats 8000000 in
set_option maxRecDepth 1000000 in
theorem ref_one_emph (a : Bool) (cU : SaysD 49 #[.string s] (.int .i64 0)) (cA : SaysR w 52 #[.slice A2 n2 c2, .bool true, .bool m] (.bool a)) :
    Calls Tryd.prog 77 #[.agg #[.int .i64 3, .string s, .slice A2 n2 c2], .bool e, .bool m] w fun x w' => x = .returned (.bool (decide (s.toList = []) && (decide ((n2 : Int) > 0) && (!e && a)))) ∧ Below w.heap.size w w' := by
  go_enter Tryd.func77, Tryd.ntmps77
  go_wp2_with fail
  refine (cU.at _).mono ?_
  rintro x w1 ⟨rfl, hb1, g2⟩
  obtain ⟨q0, q1, q2⟩ := box_three g2
  have c1 := cA w1 hb1
  by_cases hs : s.toList = []
  · have hs' : decide (s.toList = []) = true := decide_eq_true hs
    by_cases hn : n2 = 0
    · subst hn
      go_wp2_with fail
      go_ret
      exact ⟨by simp, hb1⟩
    · have ed : decide ((n2 : Int) > 0) = true := decide_eq_true (by omega)
      have ed2 : decide (0 < n2) = true := decide_eq_true (by omega)
      have ed3 : (0 < n2) = True := eq_true (by omega)
      cases e with
      | true =>
        clear hn
        go_wp2_with fail
        go_ret
        exact ⟨by simp, hb1⟩
      | false =>
        clear hn
        go_wp2_with fail
        refine c1.mono ?_
        rintro x w2 ⟨rfl, hb2⟩
        go_wp2_with fail
        go_ret
        exact ⟨by rw [hs', ed]; simp, hb1.trans (Below.mono hb2 hb1.size)⟩
  · have hs' : decide (s.toList = []) = false := decide_eq_false hs
    go_wp2_with fail
    go_ret
    exact ⟨by rw [hs']; rfl, hb1⟩
set_option maxHeartbeats 8000000 in
set_option maxRecDepth 1000000 in
theorem ref_one_link (d a : Bool) (cU : SaysD 49 #[.string s] (.int .i64 0)) (cD : SaysD 28 #[.string s] (.bool d)) (cA : SaysR w 52 #[.slice A2 n2 c2, .bool e, .bool true] (.bool a)) :
    Calls Tryd.prog 77 #[.agg #[.int .i64 4, .string s, .slice A2 n2 c2], .bool e, .bool m] w fun x w' => x = .returned (.bool (d && (decide ((n2 : Int) > 0) && (!m && a)))) ∧ Below w.heap.size w w' := by
  go_enter Tryd.func77, Tryd.ntmps77
  go_wp2_with fail
  refine (cU.at _).mono ?_
  rintro x w1 ⟨rfl, hb1, g2⟩
  obtain ⟨q0, q1, q2⟩ := box_three g2
  go_wp2_with fail
  refine (cD w1).mono ?_
  rintro x w2 ⟨rfl, hd2⟩
  have hb3 := below_drawn_ hb1 hd2
  have c1 := cA w2 hb3
  obtain ⟨z0, z1, z2⟩ := box_three (blk_below g2 hd2.below)
  clear q0 q1 q2
  cases d with
  | false =>
    go_wp2_with fail
    go_ret
    exact ⟨by simp, hb3⟩
  | true =>
    by_cases hn : n2 = 0
    · subst hn
      go_wp2_with fail
      go_ret
      exact ⟨by simp, hb3⟩
    · have ed : decide ((n2 : Int) > 0) = true := decide_eq_true (by omega)
      have ed2 : decide (0 < n2) = true := decide_eq_true (by omega)
      have ed3 : (0 < n2) = True := eq_true (by omega)
      cases m with
      | true =>
        clear hn
        go_wp2_with fail
        go_ret
        exact ⟨by simp, hb3⟩
      | false =>
        clear hn
        go_wp2_with fail
        refine c1.mono ?_
        rintro x w3 ⟨rfl, hb4⟩
        go_wp2_with fail
        go_ret
        exact ⟨by rw [ed]; simp, hb3.trans (Below.mono hb4 hb3.size)⟩
end
end Go.Proofs.YtmfffpfenhgjbaaDoor.G
