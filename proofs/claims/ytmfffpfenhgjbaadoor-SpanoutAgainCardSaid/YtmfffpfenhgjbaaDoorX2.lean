-- Written by a program of this session (wip/mkprint.py over the kit's print) out of the translation; Lean checks it.
import Derived.Test.YtmfffpfenhgjbaaDoorX0
namespace Go.Proofs.YtmfffpfenhgjbaaDoor.X
open Go.RowKit Go.Proofs.YtmfffpfenhgjbaaDoor.G Go.Proofs.YtmfffpfenhgjbaaDoorW.PrintWords Go.Proofs.YtmfffpfenhgjbaaDoorW.PrintLast Go.Proofs.YtmfffpfenhgjbaaDoorW.PrintMore
attribute [local go_sem] max2_int min2_int max_two min_two max_three min_three max_four min_four   -- for this text's walks alone
set_option linter.unusedVariables false
set_option linter.unusedSimpArgs false

/-! ### span_edge: function 42 -/
def span_edge.f (a0 : Int) : Option (Bool) := if a0 = 32 then (some true) else (if a0 = 9 then (some true) else (some (a0 == 10)))
set_option maxHeartbeats 8000000 in
set_option maxRecDepth 100000 in
theorem span_edge.calls (a0 : Int) (r : Bool) (w : World) (h : span_edge.f a0 = some r) :
  Calls Tryd.prog 42 #[.int .u8 a0] w fun e w' => e = .returned (.bool r) ∧ Drawn0 w w' := by
 have H : (if a0 = 32 then (some true) else (if a0 = 9 then (some true) else (some (a0 == 10)))) = some r := h
 clear h
 by_cases c2 : a0 = 32
 ·
  rw [if_pos c2] at H
  have c2b0 : (a0 == 32) = true := beq_iff_eq.mpr c2
  have c2b1 : (a0 != 32) = false := bne_eq_false_iff_eq.mpr c2
  clear c2
  obtain rfl := Option.some.inj H
  go_enter Tryd.func42, Tryd.ntmps42
  go_wp2
  go_ret
  exact ⟨by first | rfl | (simp; done) | (simp [*]; done) | (simp [bne, beq_nil_E]; done), by repeat (first | exact Drawn0.refl _ | apply Drawn0.step)⟩
 ·
  rw [if_neg c2] at H
  have c2b0 : (a0 == 32) = false := beq_eq_false_iff_ne.mpr c2
  have c2b1 : (a0 != 32) = true := bne_iff_ne.mpr c2
  by_cases c3 : a0 = 9
  ·
   rw [if_pos c3] at H
   have c3b0 : (a0 == 9) = true := beq_iff_eq.mpr c3
   have c3b1 : (a0 != 9) = false := bne_eq_false_iff_eq.mpr c3
   clear c3
   obtain rfl := Option.some.inj H
   go_enter Tryd.func42, Tryd.ntmps42
   go_wp2
   go_ret
   exact ⟨by first | rfl | (simp; done) | (simp [*]; done) | (simp [bne, beq_nil_E]; done), by repeat (first | exact Drawn0.refl _ | apply Drawn0.step)⟩
  ·
   rw [if_neg c3] at H
   have c3b0 : (a0 == 9) = false := beq_eq_false_iff_ne.mpr c3
   have c3b1 : (a0 != 9) = true := bne_iff_ne.mpr c3
   obtain rfl := Option.some.inj H
   go_enter Tryd.func42, Tryd.ntmps42
   go_wp2
   go_ret
   exact ⟨by first | rfl | (simp; done) | (simp [*]; done) | (simp [bne, beq_nil_E]; done), by repeat (first | exact Drawn0.refl _ | apply Drawn0.step)⟩

/-! ### emendationref01_more: function 108 -/
def emendationref01_more.f (a0 : Int) : Option (Bool) := if a0 ≥ 128 then (some (decide (a0 ≤ 191))) else (some false)
set_option maxHeartbeats 8000000 in
set_option maxRecDepth 100000 in
theorem emendationref01_more.calls (a0 : Int) (r : Bool) (w : World) (h : emendationref01_more.f a0 = some r) :
  Calls Tryd.prog 108 #[.int .u8 a0] w fun e w' => e = .returned (.bool r) ∧ Drawn0 w w' := by
 have H : (if a0 ≥ 128 then (some (decide (a0 ≤ 191))) else (some false)) = some r := h
 clear h
 by_cases c2 : a0 ≥ 128
 ·
  rw [if_pos c2] at H
  have c2b0 : decide (128 ≤ a0) = true := decide_eq_true c2
  clear c2
  obtain rfl := Option.some.inj H
  go_enter Tryd.func108, Tryd.ntmps108
  go_wp2
  go_ret
  exact ⟨by first | rfl | (simp; done) | (simp [*]; done) | (simp [bne, beq_nil_E]; done), by repeat (first | exact Drawn0.refl _ | apply Drawn0.step)⟩
 ·
  rw [if_neg c2] at H
  have c2b0 : decide (128 ≤ a0) = false := decide_eq_false c2
  clear c2
  obtain rfl := Option.some.inj H
  go_enter Tryd.func108, Tryd.ntmps108
  go_wp2
  go_ret
  exact ⟨by first | rfl | (simp; done) | (simp [*]; done) | (simp [bne, beq_nil_E]; done), by repeat (first | exact Drawn0.refl _ | apply Drawn0.step)⟩

end Go.Proofs.YtmfffpfenhgjbaaDoor.X
