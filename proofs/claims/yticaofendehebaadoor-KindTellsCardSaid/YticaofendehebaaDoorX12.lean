-- Written by a program of this session (wip/mkprint.py over the kit's print) out of the translation; Lean checks it.
import Derived.Test.YticaofendehebaaDoorX0
import Derived.Test.YticaofendehebaaDoorX1
import Derived.Test.YticaofendehebaaDoorX3
namespace Go.Proofs.YticaofendehebaaDoor.X
open Go.RowKit Go.Proofs.YticaofendehebaaDoor.G Go.Proofs.YticaofendehebaaDoorW.PrintWords Go.Proofs.YticaofendehebaaDoorW.PrintLast Go.Proofs.YticaofendehebaaDoorW.PrintMore
attribute [local go_sem] max2_int min2_int max_two min_two max_three min_three max_four min_four   -- for this text's walks alone
set_option linter.unusedVariables false
set_option linter.unusedSimpArgs false

/-! ### emendationref10_has: function 71 -/
def emendationref10_has.l0 : Nat → ByteArray → Int → Int → Option (Bool)
 | 0, _, _, _ => none
 | k + 1, x0, x1, x5 => if x5 < (x0.size : Int) then (if 0 ≤ x5 then (if (bt x0 x5) = x1 then (some true) else (emendationref10_has.l0 k x0 x1 (wrap64 (x5 + 1)))) else (none)) else (some false)
def emendationref10_has.f (k : Nat) (a0 : ByteArray) (a1 : Int) : Option (Bool) := emendationref10_has.l0 k a0 a1 0
set_option maxHeartbeats 8000000 in
set_option maxRecDepth 100000 in
theorem emendationref10_has.calls (k : Nat) (a0 : ByteArray) (a1 : Int) (r : Bool) (w : World) (h : emendationref10_has.f k a0 a1 = some r) :
  Calls Tryd.prog 71 #[.string a0, .int .u8 a1] w fun e w' => e = .returned (.bool r) ∧ Drawn0 w w' := by
 have H : (emendationref10_has.l0 k a0 a1 0) = some r := h
 clear h
 have H' := Aside0.mk H
 clear H
 go_enter Tryd.func71, Tryd.ntmps71
 go_wp2
 go_loopg [5] k (fun kq v5 w' => ∃ (x5_1 : Int), v5 = .int .i64 x5_1 ∧ Aside0 (emendationref10_has.l0 kq a0 a1 x5_1 = some r) ∧ Aside0 (kq ≤ k) ∧ Drawn0 w w')
 case atStart => exact ⟨(0), (by first | rfl | (simp; done) | (simp [*]; done) | (simp [bne, beq_nil_E]; done)), H', ⟨Nat.le_refl _⟩, by repeat (first | exact Drawn0.refl _ | apply Drawn0.step)⟩
 case round =>
  clear H'
  try clear p2
  obtain ⟨x5_1, rfl, HA, HK1, ⟨m1, rfl⟩⟩ := hrel
  cases gk with
  | zero => exact absurd HA.out (by simp [emendationref10_has.l0])
  | succ k1 =>
   have H := HA.out
   clear HA
   simp only [emendationref10_has.l0] at H
   by_cases c3 : x5_1 < (a0.size : Int)
   ·
    rw [if_pos c3] at H
    have c3b0 : decide (x5_1 < (a0.size : Int)) = true := decide_eq_true c3
    clear c3
    by_cases c4 : 0 ≤ x5_1
    ·
     rw [if_pos c4] at H
     have c4b0 : decide (0 ≤ x5_1) = true := decide_eq_true c4
     clear c4
     by_cases c6 : (bt a0 x5_1) = a1
     ·
      rw [if_pos c6] at H
      have c6b0 : ((bt a0 x5_1) == a1) = true := beq_iff_eq.mpr c6
      have c6b1 : ((bt a0 x5_1) != a1) = false := bne_eq_false_iff_eq.mpr c6
      clear c6
      obtain rfl := Option.some.inj H
      have p5 : 0 ≤ (x5_1 : Int) := of_decide_eq_true (by first | (with_reducible assumption) | assumption)
      have q5 : x5_1 < (a0.size : Int) := of_decide_eq_true (by first | (with_reducible assumption) | assumption)
      have hx5 := bt_at a0 x5_1
      replace p5 := eq_true p5
      replace q5 := eq_true q5
      go_wp2
      go_ret
      exact ⟨by first | rfl | (simp; done) | (simp [*]; done) | (simp [bne, beq_nil_E]; done), by repeat (first | exact Drawn0.refl _ | apply Drawn0.step)⟩
     ·
      rw [if_neg c6] at H
      have c6b0 : ((bt a0 x5_1) == a1) = false := beq_eq_false_iff_ne.mpr c6
      have c6b1 : ((bt a0 x5_1) != a1) = true := bne_iff_ne.mpr c6
      have H' := Aside0.mk H
      clear H
      have p5 : 0 ≤ (x5_1 : Int) := of_decide_eq_true (by first | (with_reducible assumption) | assumption)
      have q5 : x5_1 < (a0.size : Int) := of_decide_eq_true (by first | (with_reducible assumption) | assumption)
      have hx5 := bt_at a0 x5_1
      replace p5 := eq_true p5
      replace q5 := eq_true q5
      go_wp2
      go_roundg k1
      case measure => have := HK1.out; omega
      case rel => exact ⟨(wrap64 (x5_1 + 1)), (by first | rfl | (simp; done) | (simp [*]; done) | (simp [bne, beq_nil_E]; done)), H', ⟨by have := HK1.out; omega⟩, by repeat (first | exact Drawn0.refl _ | apply Drawn0.step)⟩
    ·
     rw [if_neg c4] at H
     exact absurd H (by simp)
   ·
    rw [if_neg c3] at H
    have c3b0 : decide (x5_1 < (a0.size : Int)) = false := decide_eq_false c3
    clear c3
    obtain rfl := Option.some.inj H
    go_wp2
    go_ret
    exact ⟨by first | rfl | (simp; done) | (simp [*]; done) | (simp [bne, beq_nil_E]; done), by repeat (first | exact Drawn0.refl _ | apply Drawn0.step)⟩

/-! ### emendationref10_line: function 73 -/
def emendationref10_line.f (k : Nat) (a0 : ByteArray) : Option (Bool) := (emendationref01_Check.f k a0).bind fun t211 => (if t211 = 0 then ((emendationref10_has.f k a0 10).bind fun t212 => (if t212 = true then (some false) else ((emendationref10_has.f k a0 13).bind fun t213 => (some (!t213))))) else (some false))
set_option maxHeartbeats 8000000 in
set_option maxRecDepth 100000 in
theorem emendationref10_line.calls (k : Nat) (a0 : ByteArray) (r : Bool) (w : World) (h : emendationref10_line.f k a0 = some r) :
  Calls Tryd.prog 73 #[.string a0] w fun e w' => e = .returned (.bool r) ∧ Drawn0 w w' := by
 have H : ((emendationref01_Check.f k a0).bind fun t211 => (if t211 = 0 then ((emendationref10_has.f k a0 10).bind fun t212 => (if t212 = true then (some false) else ((emendationref10_has.f k a0 13).bind fun t213 => (some (!t213))))) else (some false))) = some r := h
 clear h
 replace H := Option.bind_eq_some_iff.mp H
 obtain ⟨t211, A20, H⟩ := H
 replace H : (if t211 = 0 then ((emendationref10_has.f k a0 10).bind fun t212 => (if t212 = true then (some false) else ((emendationref10_has.f k a0 13).bind fun t213 => (some (!t213))))) else (some false)) = some r := H
 have A2 := Aside0.mk A20
 clear A20
 by_cases c3 : t211 = 0
 ·
  rw [if_pos c3] at H
  have c3b0 : (t211 == 0) = true := beq_iff_eq.mpr c3
  have c3b1 : (t211 != 0) = false := bne_eq_false_iff_eq.mpr c3
  clear c3
  replace H := Option.bind_eq_some_iff.mp H
  obtain ⟨t212, A40, H⟩ := H
  replace H : (if t212 = true then (some false) else ((emendationref10_has.f k a0 13).bind fun t213 => (some (!t213)))) = some r := H
  have A4 := Aside0.mk A40
  clear A40
  by_cases c5 : t212 = true
  ·
   subst c5
   have H1 : (some false) = some r := by rw [if_pos rfl] at H; exact H
   clear H
   have H := H1
   clear H1
   obtain rfl := Option.some.inj H
   go_enter Tryd.func73, Tryd.ntmps73
   go_wp2_with (first | ((with_reducible refine gate_callee (f := 90) rfl ?_); refine goesL_ (some 4) rfl rfl Tryd.func90 (by kernel_rfl) rfl #[.string a0] rfl (by (try simp only [List.map_toArray, List.map_cons, List.map_nil]); first | done | rfl | (simp only [List.length_drop, List.length_take]; rfl)) ?_; (with_reducible refine (emendationref01_Check.calls k a0 t211 _ A2.out).mono ?_); rintro e w' ⟨rfl, ⟨nd, rfl⟩⟩; refine ⟨_, rfl, ?_⟩; have tkA4 : True := trivial) | (go_at_call 71; clear tkA4; (with_reducible refine (emendationref10_has.calls k a0 10 true _ A4.out).mono ?_); rintro e w' ⟨rfl, ⟨nd, rfl⟩⟩))
   go_ret
   exact ⟨by first | rfl | (simp; done) | (simp [*]; done) | (simp [bne, beq_nil_E]; done), by repeat (first | exact Drawn0.refl _ | apply Drawn0.step)⟩
  ·
   replace c5 := Bool.eq_false_iff.mpr c5
   subst c5
   have H1 : ((emendationref10_has.f k a0 13).bind fun t213 => (some (!t213))) = some r := by rw [if_neg (show ¬ (false = true) by decide)] at H; exact H
   clear H
   have H := H1
   clear H1
   replace H := Option.bind_eq_some_iff.mp H
   obtain ⟨t213, A60, H⟩ := H
   replace H : (some (!t213)) = some r := H
   have A6 := Aside0.mk A60
   clear A60
   obtain rfl := Option.some.inj H
   go_enter Tryd.func73, Tryd.ntmps73
   go_wp2_with (first | ((with_reducible refine gate_callee (f := 90) rfl ?_); refine goesL_ (some 4) rfl rfl Tryd.func90 (by kernel_rfl) rfl #[.string a0] rfl (by (try simp only [List.map_toArray, List.map_cons, List.map_nil]); first | done | rfl | (simp only [List.length_drop, List.length_take]; rfl)) ?_; (with_reducible refine (emendationref01_Check.calls k a0 t211 _ A2.out).mono ?_); rintro e w' ⟨rfl, ⟨nd, rfl⟩⟩; refine ⟨_, rfl, ?_⟩; have tkA4 : True := trivial) | (go_at_call 71; clear tkA4; (with_reducible refine (emendationref10_has.calls k a0 10 false _ A4.out).mono ?_); rintro e w' ⟨rfl, ⟨nd, rfl⟩⟩; have tkA6 : True := trivial) | (go_at_call 71; clear tkA6; (with_reducible refine (emendationref10_has.calls k a0 13 t213 _ A6.out).mono ?_); rintro e w' ⟨rfl, ⟨nd, rfl⟩⟩))
   go_ret
   exact ⟨by first | rfl | (simp; done) | (simp [*]; done) | (simp [bne, beq_nil_E]; done), by repeat (first | exact Drawn0.refl _ | apply Drawn0.step)⟩
 ·
  rw [if_neg c3] at H
  have c3b0 : (t211 == 0) = false := beq_eq_false_iff_ne.mpr c3
  have c3b1 : (t211 != 0) = true := bne_iff_ne.mpr c3
  obtain rfl := Option.some.inj H
  go_enter Tryd.func73, Tryd.ntmps73
  go_wp2_with (first | ((with_reducible refine gate_callee (f := 90) rfl ?_); refine goesL_ (some 4) rfl rfl Tryd.func90 (by kernel_rfl) rfl #[.string a0] rfl (by (try simp only [List.map_toArray, List.map_cons, List.map_nil]); first | done | rfl | (simp only [List.length_drop, List.length_take]; rfl)) ?_; (with_reducible refine (emendationref01_Check.calls k a0 t211 _ A2.out).mono ?_); rintro e w' ⟨rfl, ⟨nd, rfl⟩⟩; refine ⟨_, rfl, ?_⟩))
  go_ret
  exact ⟨by first | rfl | (simp; done) | (simp [*]; done) | (simp [bne, beq_nil_E]; done), by repeat (first | exact Drawn0.refl _ | apply Drawn0.step)⟩

/-! ### emendationref10_gap: function 91 -/
def emendationref10_gap.f (a0 : Int) : Option (Bool) := if a0 = 9 then (some true) else (some (a0 == 32))
set_option maxHeartbeats 8000000 in
set_option maxRecDepth 100000 in
theorem emendationref10_gap.calls (a0 : Int) (r : Bool) (w : World) (h : emendationref10_gap.f a0 = some r) :
  Calls Tryd.prog 91 #[.int .u8 a0] w fun e w' => e = .returned (.bool r) ∧ Drawn0 w w' := by
 have H : (if a0 = 9 then (some true) else (some (a0 == 32))) = some r := h
 clear h
 by_cases c2 : a0 = 9
 ·
  rw [if_pos c2] at H
  have c2b0 : (a0 == 9) = true := beq_iff_eq.mpr c2
  have c2b1 : (a0 != 9) = false := bne_eq_false_iff_eq.mpr c2
  clear c2
  obtain rfl := Option.some.inj H
  go_enter Tryd.func91, Tryd.ntmps91
  go_wp2
  go_ret
  exact ⟨by first | rfl | (simp; done) | (simp [*]; done) | (simp [bne, beq_nil_E]; done), by repeat (first | exact Drawn0.refl _ | apply Drawn0.step)⟩
 ·
  rw [if_neg c2] at H
  have c2b0 : (a0 == 9) = false := beq_eq_false_iff_ne.mpr c2
  have c2b1 : (a0 != 9) = true := bne_iff_ne.mpr c2
  obtain rfl := Option.some.inj H
  go_enter Tryd.func91, Tryd.ntmps91
  go_wp2
  go_ret
  exact ⟨by first | rfl | (simp; done) | (simp [*]; done) | (simp [bne, beq_nil_E]; done), by repeat (first | exact Drawn0.refl _ | apply Drawn0.step)⟩

/-! ### emendationref10_tight: function 75 -/
def emendationref10_tight.f (a0 : ByteArray) : Option (Bool) := if a0.toList = ([] : List UInt8) then (some true) else (if 0 < (a0.size : Int) then ((emendationref10_gap.f (bt a0 0)).bind fun t214 => (if t214 = true then (some false) else (if 0 ≤ (wrap64 ((a0.size : Int) - 1)) then (if (wrap64 ((a0.size : Int) - 1)) < (a0.size : Int) then ((emendationref10_gap.f (bt a0 (wrap64 ((a0.size : Int) - 1)))).bind fun t215 => (some (!t215))) else (none)) else (none)))) else (none))
set_option maxHeartbeats 8000000 in
set_option maxRecDepth 100000 in
theorem emendationref10_tight.calls (a0 : ByteArray) (r : Bool) (w : World) (h : emendationref10_tight.f a0 = some r) :
  Calls Tryd.prog 75 #[.string a0] w fun e w' => e = .returned (.bool r) ∧ Drawn0 w w' := by
 have H : (if a0.toList = ([] : List UInt8) then (some true) else (if 0 < (a0.size : Int) then ((emendationref10_gap.f (bt a0 0)).bind fun t214 => (if t214 = true then (some false) else (if 0 ≤ (wrap64 ((a0.size : Int) - 1)) then (if (wrap64 ((a0.size : Int) - 1)) < (a0.size : Int) then ((emendationref10_gap.f (bt a0 (wrap64 ((a0.size : Int) - 1)))).bind fun t215 => (some (!t215))) else (none)) else (none)))) else (none))) = some r := h
 clear h
 by_cases c2 : a0.toList = ([] : List UInt8)
 ·
  rw [if_pos c2] at H
  have c2b0 : (a0.toList == ([] : List UInt8)) = true := beq_iff_eq.mpr c2
  have c2b1 : (a0.toList != ([] : List UInt8)) = false := bne_eq_false_iff_eq.mpr c2
  (try (have c2b0e := c2b0; simp only [beq_nil_E] at c2b0e))
  clear c2
  obtain rfl := Option.some.inj H
  go_enter Tryd.func75, Tryd.ntmps75
  go_wp2
  go_ret
  exact ⟨by first | rfl | (simp; done) | (simp [*]; done) | (simp [bne, beq_nil_E]; done), by repeat (first | exact Drawn0.refl _ | apply Drawn0.step)⟩
 ·
  rw [if_neg c2] at H
  have c2b0 : (a0.toList == ([] : List UInt8)) = false := beq_eq_false_iff_ne.mpr c2
  have c2b1 : (a0.toList != ([] : List UInt8)) = true := bne_iff_ne.mpr c2
  (try (have c2b0e := c2b0; simp only [beq_nil_E] at c2b0e))
  by_cases c3 : 0 < (a0.size : Int)
  ·
   rw [if_pos c3] at H
   have c3b0 : decide (0 < (a0.size : Int)) = true := decide_eq_true c3
   have c3b1 : decide (0 < a0.size) = true := decide_eq_true (by omega)
   clear c3
   replace H := Option.bind_eq_some_iff.mp H
   obtain ⟨t214, A50, H⟩ := H
   replace H : (if t214 = true then (some false) else (if 0 ≤ (wrap64 ((a0.size : Int) - 1)) then (if (wrap64 ((a0.size : Int) - 1)) < (a0.size : Int) then ((emendationref10_gap.f (bt a0 (wrap64 ((a0.size : Int) - 1)))).bind fun t215 => (some (!t215))) else (none)) else (none))) = some r := H
   have A5 := Aside0.mk A50
   clear A50
   by_cases c6 : t214 = true
   ·
    subst c6
    have H1 : (some false) = some r := by rw [if_pos rfl] at H; exact H
    clear H
    have H := H1
    clear H1
    obtain rfl := Option.some.inj H
    have p4 : 0 ≤ (0 : Int) := (by omega)
    have q4 : 0 < a0.size := (by have : (0 : Int) < (a0.size : Int) := of_decide_eq_true (by first | (with_reducible assumption) | assumption); omega)
    have hx4 : ∀ h : 0 < a0.size, ((a0[0]'h).toNat : Int) = bt a0 0 := bt_at a0 0
    clear p4
    have qi4 : (0 < (a0.size : Int)) = True := eq_true (of_decide_eq_true (by first | (with_reducible assumption) | assumption))
    replace q4 := eq_true q4
    have tkA5 : True := trivial
    go_enter Tryd.func75, Tryd.ntmps75
    go_wp2_with (first | (go_at_call 91; clear tkA5; (with_reducible refine (emendationref10_gap.calls (bt a0 0) true _ A5.out).mono ?_); rintro e w' ⟨rfl, ⟨nd, rfl⟩⟩))
    go_ret
    exact ⟨by first | rfl | (simp; done) | (simp [*]; done) | (simp [bne, beq_nil_E]; done), by repeat (first | exact Drawn0.refl _ | apply Drawn0.step)⟩
   ·
    replace c6 := Bool.eq_false_iff.mpr c6
    subst c6
    have H1 : (if 0 ≤ (wrap64 ((a0.size : Int) - 1)) then (if (wrap64 ((a0.size : Int) - 1)) < (a0.size : Int) then ((emendationref10_gap.f (bt a0 (wrap64 ((a0.size : Int) - 1)))).bind fun t215 => (some (!t215))) else (none)) else (none)) = some r := by rw [if_neg (show ¬ (false = true) by decide)] at H; exact H
    clear H
    have H := H1
    clear H1
    obtain ⟨ji7, hji7⟩ : ∃ j_ : Int, (wrap64 ((a0.size : Int) - 1)) = j_ := ⟨_, rfl⟩
    replace H : (if 0 ≤ (ji7) then (if (ji7) < (a0.size : Int) then ((emendationref10_gap.f (bt a0 (ji7))).bind fun t215 => (some (!t215))) else (none)) else (none)) = some r := by first | (rw [hji7] at H; exact H) | (simp only [hji7] at H ⊢; exact H)
    (try rw [hji7] at A5)
    have hji7w : (IntKind.i64.wrap ((a0.size : Int) - 1)) = ji7 := (i64_w _).trans hji7
    by_cases c8 : 0 ≤ (ji7)
    ·
     rw [if_pos c8] at H
     have c8b0 : decide (0 ≤ (ji7)) = true := decide_eq_true c8
     clear c8
     by_cases c9 : (ji7) < (a0.size : Int)
     ·
      rw [if_pos c9] at H
      have c9b0 : decide ((ji7) < (a0.size : Int)) = true := decide_eq_true c9
      clear c9
      replace H := Option.bind_eq_some_iff.mp H
      obtain ⟨t215, A110, H⟩ := H
      replace H : (some (!t215)) = some r := H
      have A11 := Aside0.mk A110
      clear A110
      obtain rfl := Option.some.inj H
      have p4 : 0 ≤ (0 : Int) := (by omega)
      have q4 : 0 < a0.size := (by have : (0 : Int) < (a0.size : Int) := of_decide_eq_true (by first | (with_reducible assumption) | assumption); omega)
      have hx4 : ∀ h : 0 < a0.size, ((a0[0]'h).toNat : Int) = bt a0 0 := bt_at a0 0
      clear p4
      have qi4 : (0 < (a0.size : Int)) = True := eq_true (of_decide_eq_true (by first | (with_reducible assumption) | assumption))
      replace q4 := eq_true q4
      have tkA5 : True := trivial
      go_enter Tryd.func75, Tryd.ntmps75
      go_wp2_with (first | (go_at_call 91; clear tkA5; (with_reducible refine (emendationref10_gap.calls (bt a0 0) false _ A5.out).mono ?_); rintro e w' ⟨rfl, ⟨nd, rfl⟩⟩; have p10 : 0 ≤ ((ji7) : Int) := of_decide_eq_true (by first | (with_reducible assumption) | assumption); have q10 : (ji7) < (a0.size : Int) := of_decide_eq_true (by first | (with_reducible assumption) | assumption); have hx10 := bt_at a0 (ji7); replace p10 := eq_true p10; replace q10 := eq_true q10; have tkA11 : True := trivial) | (go_at_call 91; clear tkA11; (with_reducible refine (emendationref10_gap.calls (bt a0 (ji7)) t215 _ A11.out).mono ?_); rintro e w' ⟨rfl, ⟨nd, rfl⟩⟩))
      go_ret
      exact ⟨by first | rfl | (simp; done) | (simp only [← hji7] <;> (first | rfl | simp)) | (simp [*]; done), by repeat (first | exact Drawn0.refl _ | apply Drawn0.step)⟩
     ·
      rw [if_neg c9] at H
      exact absurd H (by simp)
    ·
     rw [if_neg c8] at H
     exact absurd H (by simp)
  ·
   rw [if_neg c3] at H
   exact absurd H (by simp)

/-! ### emendationref10_Label: function 54 -/
def emendationref10_Label.f (k : Nat) (a0 : ByteArray) : Option (Bool) := if a0.toList = ([] : List UInt8) then (some false) else ((emendationref10_line.f k a0).bind fun t216 => (if t216 = true then ((emendationref10_tight.f a0).bind fun t217 => (if t217 = true then ((emendationref10_has.f k a0 91).bind fun t218 => (if t218 = true then (some false) else ((emendationref10_has.f k a0 93).bind fun t219 => (if t219 = true then (some false) else ((emendationref10_has.f k a0 92).bind fun t220 => (some (!t220))))))) else (some false))) else (some false)))
set_option maxHeartbeats 8000000 in
set_option maxRecDepth 100000 in
theorem emendationref10_Label.calls (k : Nat) (a0 : ByteArray) (r : Bool) (w : World) (h : emendationref10_Label.f k a0 = some r) :
  Calls Tryd.prog 54 #[.string a0] w fun e w' => e = .returned (.bool r) ∧ Drawn0 w w' := by
 have H : (if a0.toList = ([] : List UInt8) then (some false) else ((emendationref10_line.f k a0).bind fun t216 => (if t216 = true then ((emendationref10_tight.f a0).bind fun t217 => (if t217 = true then ((emendationref10_has.f k a0 91).bind fun t218 => (if t218 = true then (some false) else ((emendationref10_has.f k a0 93).bind fun t219 => (if t219 = true then (some false) else ((emendationref10_has.f k a0 92).bind fun t220 => (some (!t220))))))) else (some false))) else (some false)))) = some r := h
 clear h
 by_cases c2 : a0.toList = ([] : List UInt8)
 ·
  rw [if_pos c2] at H
  have c2b0 : (a0.toList == ([] : List UInt8)) = true := beq_iff_eq.mpr c2
  have c2b1 : (a0.toList != ([] : List UInt8)) = false := bne_eq_false_iff_eq.mpr c2
  (try (have c2b0e := c2b0; simp only [beq_nil_E] at c2b0e))
  clear c2
  obtain rfl := Option.some.inj H
  go_enter Tryd.func54, Tryd.ntmps54
  go_wp2
  go_ret
  exact ⟨by first | rfl | (simp; done) | (simp [*]; done) | (simp [bne, beq_nil_E]; done), by repeat (first | exact Drawn0.refl _ | apply Drawn0.step)⟩
 ·
  rw [if_neg c2] at H
  have c2b0 : (a0.toList == ([] : List UInt8)) = false := beq_eq_false_iff_ne.mpr c2
  have c2b1 : (a0.toList != ([] : List UInt8)) = true := bne_iff_ne.mpr c2
  (try (have c2b0e := c2b0; simp only [beq_nil_E] at c2b0e))
  replace H := Option.bind_eq_some_iff.mp H
  obtain ⟨t216, A30, H⟩ := H
  replace H : (if t216 = true then ((emendationref10_tight.f a0).bind fun t217 => (if t217 = true then ((emendationref10_has.f k a0 91).bind fun t218 => (if t218 = true then (some false) else ((emendationref10_has.f k a0 93).bind fun t219 => (if t219 = true then (some false) else ((emendationref10_has.f k a0 92).bind fun t220 => (some (!t220))))))) else (some false))) else (some false)) = some r := H
  have A3 := Aside0.mk A30
  clear A30
  by_cases c4 : t216 = true
  ·
   subst c4
   have H1 : ((emendationref10_tight.f a0).bind fun t217 => (if t217 = true then ((emendationref10_has.f k a0 91).bind fun t218 => (if t218 = true then (some false) else ((emendationref10_has.f k a0 93).bind fun t219 => (if t219 = true then (some false) else ((emendationref10_has.f k a0 92).bind fun t220 => (some (!t220))))))) else (some false))) = some r := by rw [if_pos rfl] at H; exact H
   clear H
   have H := H1
   clear H1
   replace H := Option.bind_eq_some_iff.mp H
   obtain ⟨t217, A50, H⟩ := H
   replace H : (if t217 = true then ((emendationref10_has.f k a0 91).bind fun t218 => (if t218 = true then (some false) else ((emendationref10_has.f k a0 93).bind fun t219 => (if t219 = true then (some false) else ((emendationref10_has.f k a0 92).bind fun t220 => (some (!t220))))))) else (some false)) = some r := H
   have A5 := Aside0.mk A50
   clear A50
   by_cases c6 : t217 = true
   ·
    subst c6
    have H1 : ((emendationref10_has.f k a0 91).bind fun t218 => (if t218 = true then (some false) else ((emendationref10_has.f k a0 93).bind fun t219 => (if t219 = true then (some false) else ((emendationref10_has.f k a0 92).bind fun t220 => (some (!t220))))))) = some r := by rw [if_pos rfl] at H; exact H
    clear H
    have H := H1
    clear H1
    replace H := Option.bind_eq_some_iff.mp H
    obtain ⟨t218, A70, H⟩ := H
    replace H : (if t218 = true then (some false) else ((emendationref10_has.f k a0 93).bind fun t219 => (if t219 = true then (some false) else ((emendationref10_has.f k a0 92).bind fun t220 => (some (!t220)))))) = some r := H
    have A7 := Aside0.mk A70
    clear A70
    by_cases c8 : t218 = true
    ·
     subst c8
     have H1 : (some false) = some r := by rw [if_pos rfl] at H; exact H
     clear H
     have H := H1
     clear H1
     obtain rfl := Option.some.inj H
     have tkA3 : True := trivial
     go_enter Tryd.func54, Tryd.ntmps54
     go_wp2_with (first | (go_at_call 73; clear tkA3; (with_reducible refine (emendationref10_line.calls k a0 true _ A3.out).mono ?_); rintro e w' ⟨rfl, ⟨nd, rfl⟩⟩; have tkA5 : True := trivial) | (go_at_call 75; clear tkA5; (with_reducible refine (emendationref10_tight.calls a0 true _ A5.out).mono ?_); rintro e w' ⟨rfl, ⟨nd, rfl⟩⟩; have tkA7 : True := trivial) | (go_at_call 71; clear tkA7; (with_reducible refine (emendationref10_has.calls k a0 91 true _ A7.out).mono ?_); rintro e w' ⟨rfl, ⟨nd, rfl⟩⟩))
     go_ret
     exact ⟨by first | rfl | (simp; done) | (simp [*]; done) | (simp [bne, beq_nil_E]; done), by repeat (first | exact Drawn0.refl _ | apply Drawn0.step)⟩
    ·
     replace c8 := Bool.eq_false_iff.mpr c8
     subst c8
     have H1 : ((emendationref10_has.f k a0 93).bind fun t219 => (if t219 = true then (some false) else ((emendationref10_has.f k a0 92).bind fun t220 => (some (!t220))))) = some r := by rw [if_neg (show ¬ (false = true) by decide)] at H; exact H
     clear H
     have H := H1
     clear H1
     replace H := Option.bind_eq_some_iff.mp H
     obtain ⟨t219, A90, H⟩ := H
     replace H : (if t219 = true then (some false) else ((emendationref10_has.f k a0 92).bind fun t220 => (some (!t220)))) = some r := H
     have A9 := Aside0.mk A90
     clear A90
     by_cases c10 : t219 = true
     ·
      subst c10
      have H1 : (some false) = some r := by rw [if_pos rfl] at H; exact H
      clear H
      have H := H1
      clear H1
      obtain rfl := Option.some.inj H
      have tkA3 : True := trivial
      go_enter Tryd.func54, Tryd.ntmps54
      go_wp2_with (first | (go_at_call 73; clear tkA3; (with_reducible refine (emendationref10_line.calls k a0 true _ A3.out).mono ?_); rintro e w' ⟨rfl, ⟨nd, rfl⟩⟩; have tkA5 : True := trivial) | (go_at_call 75; clear tkA5; (with_reducible refine (emendationref10_tight.calls a0 true _ A5.out).mono ?_); rintro e w' ⟨rfl, ⟨nd, rfl⟩⟩; have tkA7 : True := trivial) | (go_at_call 71; clear tkA7; (with_reducible refine (emendationref10_has.calls k a0 91 false _ A7.out).mono ?_); rintro e w' ⟨rfl, ⟨nd, rfl⟩⟩; have tkA9 : True := trivial) | (go_at_call 71; clear tkA9; (with_reducible refine (emendationref10_has.calls k a0 93 true _ A9.out).mono ?_); rintro e w' ⟨rfl, ⟨nd, rfl⟩⟩))
      go_ret
      exact ⟨by first | rfl | (simp; done) | (simp [*]; done) | (simp [bne, beq_nil_E]; done), by repeat (first | exact Drawn0.refl _ | apply Drawn0.step)⟩
     ·
      replace c10 := Bool.eq_false_iff.mpr c10
      subst c10
      have H1 : ((emendationref10_has.f k a0 92).bind fun t220 => (some (!t220))) = some r := by rw [if_neg (show ¬ (false = true) by decide)] at H; exact H
      clear H
      have H := H1
      clear H1
      replace H := Option.bind_eq_some_iff.mp H
      obtain ⟨t220, A110, H⟩ := H
      replace H : (some (!t220)) = some r := H
      have A11 := Aside0.mk A110
      clear A110
      obtain rfl := Option.some.inj H
      have tkA3 : True := trivial
      go_enter Tryd.func54, Tryd.ntmps54
      go_wp2_with (first | (go_at_call 73; clear tkA3; (with_reducible refine (emendationref10_line.calls k a0 true _ A3.out).mono ?_); rintro e w' ⟨rfl, ⟨nd, rfl⟩⟩; have tkA5 : True := trivial) | (go_at_call 75; clear tkA5; (with_reducible refine (emendationref10_tight.calls a0 true _ A5.out).mono ?_); rintro e w' ⟨rfl, ⟨nd, rfl⟩⟩; have tkA7 : True := trivial) | (go_at_call 71; clear tkA7; (with_reducible refine (emendationref10_has.calls k a0 91 false _ A7.out).mono ?_); rintro e w' ⟨rfl, ⟨nd, rfl⟩⟩; have tkA9 : True := trivial) | (go_at_call 71; clear tkA9; (with_reducible refine (emendationref10_has.calls k a0 93 false _ A9.out).mono ?_); rintro e w' ⟨rfl, ⟨nd, rfl⟩⟩; have tkA11 : True := trivial) | (go_at_call 71; clear tkA11; (with_reducible refine (emendationref10_has.calls k a0 92 t220 _ A11.out).mono ?_); rintro e w' ⟨rfl, ⟨nd, rfl⟩⟩))
      go_ret
      exact ⟨by first | rfl | (simp; done) | (simp [*]; done) | (simp [bne, beq_nil_E]; done), by repeat (first | exact Drawn0.refl _ | apply Drawn0.step)⟩
   ·
    replace c6 := Bool.eq_false_iff.mpr c6
    subst c6
    have H1 : (some false) = some r := by rw [if_neg (show ¬ (false = true) by decide)] at H; exact H
    clear H
    have H := H1
    clear H1
    obtain rfl := Option.some.inj H
    have tkA3 : True := trivial
    go_enter Tryd.func54, Tryd.ntmps54
    go_wp2_with (first | (go_at_call 73; clear tkA3; (with_reducible refine (emendationref10_line.calls k a0 true _ A3.out).mono ?_); rintro e w' ⟨rfl, ⟨nd, rfl⟩⟩; have tkA5 : True := trivial) | (go_at_call 75; clear tkA5; (with_reducible refine (emendationref10_tight.calls a0 false _ A5.out).mono ?_); rintro e w' ⟨rfl, ⟨nd, rfl⟩⟩))
    go_ret
    exact ⟨by first | rfl | (simp; done) | (simp [*]; done) | (simp [bne, beq_nil_E]; done), by repeat (first | exact Drawn0.refl _ | apply Drawn0.step)⟩
  ·
   replace c4 := Bool.eq_false_iff.mpr c4
   subst c4
   have H1 : (some false) = some r := by rw [if_neg (show ¬ (false = true) by decide)] at H; exact H
   clear H
   have H := H1
   clear H1
   obtain rfl := Option.some.inj H
   have tkA3 : True := trivial
   go_enter Tryd.func54, Tryd.ntmps54
   go_wp2_with (first | (go_at_call 73; clear tkA3; (with_reducible refine (emendationref10_line.calls k a0 false _ A3.out).mono ?_); rintro e w' ⟨rfl, ⟨nd, rfl⟩⟩))
   go_ret
   exact ⟨by first | rfl | (simp; done) | (simp [*]; done) | (simp [bne, beq_nil_E]; done), by repeat (first | exact Drawn0.refl _ | apply Drawn0.step)⟩

/-! ### emendationref11_define: function 41 -/
def emendationref11_define.l0 : Nat → ByteArray → Int → Option (ByteArray × ByteArray × Bool)
 | 0, _, _ => none
 | k + 1, x0, x5 => if (wrap64 (x5 + 3)) < (x0.size : Int) then (if 0 < (x0.size : Int) then (if (bt x0 0) = 91 then (if 0 ≤ x5 then (if x5 < (x0.size : Int) then (if (bt x0 x5) = 93 then (if 0 ≤ (wrap64 (x5 + 1)) then (if (wrap64 (x5 + 1)) < (x0.size : Int) then (if (bt x0 (wrap64 (x5 + 1))) = 58 then (if 0 ≤ (wrap64 (x5 + 2)) then (if (wrap64 (x5 + 2)) < (x0.size : Int) then (if (bt x0 (wrap64 (x5 + 2))) = 32 then (if 1 ≤ x5 then (if x5 ≤ (x0.size : Int) then ((emendationref10_Label.f k (x0.extract 1 (x5 : Int).toNat)).bind fun t221 => (if t221 = true then (if 0 ≤ (wrap64 (x5 + 3)) then (if (wrap64 (x5 + 3)) ≤ (x0.size : Int) then ((emendationref07_Dest.f k (x0.extract ((wrap64 (x5 + 3)) : Int).toNat x0.size)).bind fun t222 => (if t222 = true then (some (x0.extract 1 (x5 : Int).toNat, x0.extract ((wrap64 (x5 + 3)) : Int).toNat x0.size, true)) else (emendationref11_define.l0 k x0 (wrap64 (x5 + 1))))) else (none)) else (none)) else (emendationref11_define.l0 k x0 (wrap64 (x5 + 1))))) else (none)) else (none)) else (emendationref11_define.l0 k x0 (wrap64 (x5 + 1)))) else (none)) else (none)) else (emendationref11_define.l0 k x0 (wrap64 (x5 + 1)))) else (none)) else (none)) else (emendationref11_define.l0 k x0 (wrap64 (x5 + 1)))) else (none)) else (none)) else (emendationref11_define.l0 k x0 (wrap64 (x5 + 1)))) else (none)) else (some ((⟨#[]⟩ : ByteArray), (⟨#[]⟩ : ByteArray), false))
def emendationref11_define.f (k : Nat) (a0 : ByteArray) : Option (ByteArray × ByteArray × Bool) := emendationref11_define.l0 k a0 1
set_option maxHeartbeats 8000000 in
set_option maxRecDepth 100000 in
theorem emendationref11_define.calls (k : Nat) (a0 : ByteArray) (r1 : ByteArray) (r2 : ByteArray) (r3 : Bool) (w : World) (h : emendationref11_define.f k a0 = some (r1, r2, r3)) :
  Calls Tryd.prog 41 #[.string a0] w fun e w' => e = .returned (.tuple #[.string r1, .string r2, .bool r3]) ∧ Drawn0 w w' := by
 have H : (emendationref11_define.l0 k a0 1) = some (r1, r2, r3) := h
 clear h
 have H' := Aside0.mk H
 clear H
 go_enter Tryd.func41, Tryd.ntmps41
 go_wp2
 repeat (go_quiet (fail); try go_wp2)
 go_loopg [5] k (fun kq v5 w' => ∃ (x5_1 : Int), v5 = .int .i64 x5_1 ∧ Aside0 (emendationref11_define.l0 kq a0 x5_1 = some (r1, r2, r3)) ∧ Aside0 (kq ≤ k) ∧ Drawn0 w w')
 case atStart => exact ⟨(1), (by first | rfl | (simp; done) | (simp [*]; done) | (simp [bne, beq_nil_E]; done)), H', ⟨Nat.le_refl _⟩, by repeat (first | exact Drawn0.refl _ | apply Drawn0.step)⟩
 case round =>
  clear H'
  obtain ⟨x5_1, rfl, HA, HK1, ⟨m1, rfl⟩⟩ := hrel
  cases gk with
  | zero => exact absurd HA.out (by simp [emendationref11_define.l0])
  | succ k1 =>
   have H := HA.out
   clear HA
   simp only [emendationref11_define.l0] at H
   by_cases c2 : (wrap64 (x5_1 + 3)) < (a0.size : Int)
   ·
    rw [if_pos c2] at H
    have c2b0 : decide ((wrap64 (x5_1 + 3)) < (a0.size : Int)) = true := decide_eq_true c2
    clear c2
    by_cases c3 : 0 < (a0.size : Int)
    ·
     rw [if_pos c3] at H
     have c3b0 : decide (0 < (a0.size : Int)) = true := decide_eq_true c3
     have c3b1 : decide (0 < a0.size) = true := decide_eq_true (by omega)
     clear c3
     by_cases c5 : (bt a0 0) = 91
     ·
      rw [if_pos c5] at H
      have c5b0 : ((bt a0 0) == 91) = true := beq_iff_eq.mpr c5
      have c5b1 : ((bt a0 0) != 91) = false := bne_eq_false_iff_eq.mpr c5
      clear c5
      by_cases c6 : 0 ≤ x5_1
      ·
       rw [if_pos c6] at H
       have c6b0 : decide (0 ≤ x5_1) = true := decide_eq_true c6
       clear c6
       by_cases c7 : x5_1 < (a0.size : Int)
       ·
        rw [if_pos c7] at H
        have c7b0 : decide (x5_1 < (a0.size : Int)) = true := decide_eq_true c7
        clear c7
        by_cases c9 : (bt a0 x5_1) = 93
        ·
         rw [if_pos c9] at H
         have c9b0 : ((bt a0 x5_1) == 93) = true := beq_iff_eq.mpr c9
         have c9b1 : ((bt a0 x5_1) != 93) = false := bne_eq_false_iff_eq.mpr c9
         clear c9
         obtain ⟨ji10, hji10⟩ : ∃ j_ : Int, (wrap64 (x5_1 + 1)) = j_ := ⟨_, rfl⟩
         replace H : (if 0 ≤ (ji10) then (if (ji10) < (a0.size : Int) then (if (bt a0 (ji10)) = 58 then (if 0 ≤ (wrap64 (x5_1 + 2)) then (if (wrap64 (x5_1 + 2)) < (a0.size : Int) then (if (bt a0 (wrap64 (x5_1 + 2))) = 32 then (if 1 ≤ x5_1 then (if x5_1 ≤ (a0.size : Int) then ((emendationref10_Label.f k1 (a0.extract 1 (x5_1 : Int).toNat)).bind fun t221 => (if t221 = true then (if 0 ≤ (wrap64 (x5_1 + 3)) then (if (wrap64 (x5_1 + 3)) ≤ (a0.size : Int) then ((emendationref07_Dest.f k1 (a0.extract ((wrap64 (x5_1 + 3)) : Int).toNat a0.size)).bind fun t222 => (if t222 = true then (some (a0.extract 1 (x5_1 : Int).toNat, a0.extract ((wrap64 (x5_1 + 3)) : Int).toNat a0.size, true)) else (emendationref11_define.l0 k1 a0 ji10))) else (none)) else (none)) else (emendationref11_define.l0 k1 a0 ji10))) else (none)) else (none)) else (emendationref11_define.l0 k1 a0 ji10)) else (none)) else (none)) else (emendationref11_define.l0 k1 a0 ji10)) else (none)) else (none)) = some (r1, r2, r3) := by first | (rw [hji10] at H; exact H) | (simp only [hji10] at H ⊢; exact H)
         have hji10w : (IntKind.i64.wrap (x5_1 + 1)) = ji10 := (i64_w _).trans hji10
         by_cases c11 : 0 ≤ (ji10)
         ·
          rw [if_pos c11] at H
          have c11b0 : decide (0 ≤ (ji10)) = true := decide_eq_true c11
          clear c11
          by_cases c12 : (ji10) < (a0.size : Int)
          ·
           rw [if_pos c12] at H
           have c12b0 : decide ((ji10) < (a0.size : Int)) = true := decide_eq_true c12
           clear c12
           by_cases c14 : (bt a0 (ji10)) = 58
           ·
            rw [if_pos c14] at H
            have c14b0 : ((bt a0 (ji10)) == 58) = true := beq_iff_eq.mpr c14
            have c14b1 : ((bt a0 (ji10)) != 58) = false := bne_eq_false_iff_eq.mpr c14
            clear c14
            obtain ⟨ji15, hji15⟩ : ∃ j_ : Int, (wrap64 (x5_1 + 2)) = j_ := ⟨_, rfl⟩
            replace H : (if 0 ≤ (ji15) then (if (ji15) < (a0.size : Int) then (if (bt a0 (ji15)) = 32 then (if 1 ≤ x5_1 then (if x5_1 ≤ (a0.size : Int) then ((emendationref10_Label.f k1 (a0.extract 1 (x5_1 : Int).toNat)).bind fun t221 => (if t221 = true then (if 0 ≤ (wrap64 (x5_1 + 3)) then (if (wrap64 (x5_1 + 3)) ≤ (a0.size : Int) then ((emendationref07_Dest.f k1 (a0.extract ((wrap64 (x5_1 + 3)) : Int).toNat a0.size)).bind fun t222 => (if t222 = true then (some (a0.extract 1 (x5_1 : Int).toNat, a0.extract ((wrap64 (x5_1 + 3)) : Int).toNat a0.size, true)) else (emendationref11_define.l0 k1 a0 ji10))) else (none)) else (none)) else (emendationref11_define.l0 k1 a0 ji10))) else (none)) else (none)) else (emendationref11_define.l0 k1 a0 ji10)) else (none)) else (none)) = some (r1, r2, r3) := by first | (rw [hji15] at H; exact H) | (simp only [hji15] at H ⊢; exact H)
            have hji15w : (IntKind.i64.wrap (x5_1 + 2)) = ji15 := (i64_w _).trans hji15
            by_cases c16 : 0 ≤ (ji15)
            ·
             rw [if_pos c16] at H
             have c16b0 : decide (0 ≤ (ji15)) = true := decide_eq_true c16
             clear c16
             by_cases c17 : (ji15) < (a0.size : Int)
             ·
              rw [if_pos c17] at H
              have c17b0 : decide ((ji15) < (a0.size : Int)) = true := decide_eq_true c17
              clear c17
              by_cases c19 : (bt a0 (ji15)) = 32
              ·
               rw [if_pos c19] at H
               have c19b0 : ((bt a0 (ji15)) == 32) = true := beq_iff_eq.mpr c19
               have c19b1 : ((bt a0 (ji15)) != 32) = false := bne_eq_false_iff_eq.mpr c19
               clear c19
               by_cases c20 : 1 ≤ x5_1
               ·
                rw [if_pos c20] at H
                have c20b0 := eq_true c20
                have c20b1 : decide (1 ≤ x5_1) = true := decide_eq_true c20
                clear c20
                by_cases c21 : x5_1 ≤ (a0.size : Int)
                ·
                 rw [if_pos c21] at H
                 have c21b0 := eq_true c21
                 have c21b1 : decide (x5_1 ≤ (a0.size : Int)) = true := decide_eq_true c21
                 clear c21
                 replace H := Option.bind_eq_some_iff.mp H
                 obtain ⟨t221, A220, H⟩ := H
                 replace H : (if t221 = true then (if 0 ≤ (wrap64 (x5_1 + 3)) then (if (wrap64 (x5_1 + 3)) ≤ (a0.size : Int) then ((emendationref07_Dest.f k1 (a0.extract ((wrap64 (x5_1 + 3)) : Int).toNat a0.size)).bind fun t222 => (if t222 = true then (some (a0.extract 1 (x5_1 : Int).toNat, a0.extract ((wrap64 (x5_1 + 3)) : Int).toNat a0.size, true)) else (emendationref11_define.l0 k1 a0 ji10))) else (none)) else (none)) else (emendationref11_define.l0 k1 a0 ji10)) = some (r1, r2, r3) := H
                 have A22 := Aside0.mk A220
                 clear A220
                 by_cases c23 : t221 = true
                 ·
                  subst c23
                  have H1 : (if 0 ≤ (wrap64 (x5_1 + 3)) then (if (wrap64 (x5_1 + 3)) ≤ (a0.size : Int) then ((emendationref07_Dest.f k1 (a0.extract ((wrap64 (x5_1 + 3)) : Int).toNat a0.size)).bind fun t222 => (if t222 = true then (some (a0.extract 1 (x5_1 : Int).toNat, a0.extract ((wrap64 (x5_1 + 3)) : Int).toNat a0.size, true)) else (emendationref11_define.l0 k1 a0 ji10))) else (none)) else (none)) = some (r1, r2, r3) := by rw [if_pos rfl] at H; exact H
                  clear H
                  have H := H1
                  clear H1
                  obtain ⟨ji24, hji24⟩ : ∃ j_ : Int, (wrap64 (x5_1 + 3)) = j_ := ⟨_, rfl⟩
                  replace H : (if 0 ≤ (ji24) then (if (ji24) ≤ (a0.size : Int) then ((emendationref07_Dest.f k1 (a0.extract ((ji24) : Int).toNat a0.size)).bind fun t222 => (if t222 = true then (some (a0.extract 1 (x5_1 : Int).toNat, a0.extract ((ji24) : Int).toNat a0.size, true)) else (emendationref11_define.l0 k1 a0 ji10))) else (none)) else (none)) = some (r1, r2, r3) := by first | (rw [hji24] at H; exact H) | (simp only [hji24] at H ⊢; exact H)
                  (try rw [hji24] at c2b0)
                  (try rw [hji24] at A22)
                  have hji24w : (IntKind.i64.wrap (x5_1 + 3)) = ji24 := (i64_w _).trans hji24
                  by_cases c25 : 0 ≤ (ji24)
                  ·
                   rw [if_pos c25] at H
                   have c25b0 := eq_true c25
                   have c25b1 : decide (0 ≤ (ji24)) = true := decide_eq_true c25
                   clear c25
                   by_cases c26 : (ji24) ≤ (a0.size : Int)
                   ·
                    rw [if_pos c26] at H
                    have c26b0 := eq_true c26
                    have c26b1 : decide ((ji24) ≤ (a0.size : Int)) = true := decide_eq_true c26
                    clear c26
                    replace H := Option.bind_eq_some_iff.mp H
                    obtain ⟨t222, A270, H⟩ := H
                    replace H : (if t222 = true then (some (a0.extract 1 (x5_1 : Int).toNat, a0.extract ((ji24) : Int).toNat a0.size, true)) else (emendationref11_define.l0 k1 a0 ji10)) = some (r1, r2, r3) := H
                    have A27 := Aside0.mk A270
                    clear A270
                    by_cases c28 : t222 = true
                    ·
                     subst c28
                     have H1 : (some (a0.extract 1 (x5_1 : Int).toNat, a0.extract ((ji24) : Int).toNat a0.size, true)) = some (r1, r2, r3) := by rw [if_pos rfl] at H; exact H
                     clear H
                     have H := H1
                     clear H1
                     have c29b0 := eq_true (of_decide_eq_true (by first | (with_reducible assumption) | assumption) : 1 ≤ x5_1)
                     have c30b0 := eq_true (of_decide_eq_true (by first | (with_reducible assumption) | assumption) : x5_1 ≤ (a0.size : Int))
                     have c31b0 := eq_true (of_decide_eq_true (by first | (with_reducible assumption) | assumption) : 0 ≤ (ji24))
                     have c32b0 := eq_true (of_decide_eq_true (by first | (with_reducible assumption) | assumption) : (ji24) ≤ (a0.size : Int))
                     simp only [Option.some.injEq, Prod.mk.injEq] at H
                     obtain ⟨rfl, rfl, rfl⟩ := H
                     have p4 : 0 ≤ (0 : Int) := (by omega)
                     have q4 : 0 < a0.size := (by have : (0 : Int) < (a0.size : Int) := of_decide_eq_true (by first | (with_reducible assumption) | assumption); omega)
                     have hx4 : ∀ h : 0 < a0.size, ((a0[0]'h).toNat : Int) = bt a0 0 := bt_at a0 0
                     clear p4
                     have qi4 : (0 < (a0.size : Int)) = True := eq_true (of_decide_eq_true (by first | (with_reducible assumption) | assumption))
                     replace q4 := eq_true q4
                     have p8 : 0 ≤ (x5_1 : Int) := of_decide_eq_true (by first | (with_reducible assumption) | assumption)
                     have q8 : x5_1 < (a0.size : Int) := of_decide_eq_true (by first | (with_reducible assumption) | assumption)
                     have hx8 := bt_at a0 x5_1
                     replace p8 := eq_true p8
                     replace q8 := eq_true q8
                     have p13 : 0 ≤ ((ji10) : Int) := of_decide_eq_true (by first | (with_reducible assumption) | assumption)
                     have q13 : (ji10) < (a0.size : Int) := of_decide_eq_true (by first | (with_reducible assumption) | assumption)
                     have hx13 := bt_at a0 (ji10)
                     replace p13 := eq_true p13
                     replace q13 := eq_true q13
                     have p18 : 0 ≤ ((ji15) : Int) := of_decide_eq_true (by first | (with_reducible assumption) | assumption)
                     have q18 : (ji15) < (a0.size : Int) := of_decide_eq_true (by first | (with_reducible assumption) | assumption)
                     have hx18 := bt_at a0 (ji15)
                     replace p18 := eq_true p18
                     replace q18 := eq_true q18
                     have tkA22 : True := trivial
                     go_wp2_with (first | (go_at_call 54; clear tkA22; (with_reducible refine (emendationref10_Label.calls k1 (a0.extract 1 (x5_1 : Int).toNat) true _ A22.out).mono ?_); rintro e w' ⟨rfl, ⟨nd, rfl⟩⟩; (try first | exact ⟨rfl, _, World.drewN_drewN _ _ _⟩ | exact ⟨rfl, _, Eq.trans (World.drewN_drewN _ _ _) (congrArg (World.drewN _) (Nat.add_assoc _ _ _))⟩); have tkA27 : True := trivial) | (go_at_call 55; clear tkA27; (with_reducible refine (emendationref07_Dest.calls k1 (a0.extract ((ji24) : Int).toNat a0.size) true _ A27.out).mono ?_); rintro e w' ⟨rfl, ⟨nd, rfl⟩⟩; (try first | exact ⟨rfl, _, World.drewN_drewN _ _ _⟩ | exact ⟨rfl, _, Eq.trans (World.drewN_drewN _ _ _) (congrArg (World.drewN _) (Nat.add_assoc _ _ _))⟩)))
                     repeat (go_quiet (first | (go_at_call 54; clear tkA22; (with_reducible refine (emendationref10_Label.calls k1 (a0.extract 1 (x5_1 : Int).toNat) true _ A22.out).mono ?_); rintro e w' ⟨rfl, ⟨nd, rfl⟩⟩; (try first | exact ⟨rfl, _, World.drewN_drewN _ _ _⟩ | exact ⟨rfl, _, Eq.trans (World.drewN_drewN _ _ _) (congrArg (World.drewN _) (Nat.add_assoc _ _ _))⟩); have tkA27 : True := trivial) | (go_at_call 55; clear tkA27; (with_reducible refine (emendationref07_Dest.calls k1 (a0.extract ((ji24) : Int).toNat a0.size) true _ A27.out).mono ?_); rintro e w' ⟨rfl, ⟨nd, rfl⟩⟩; (try first | exact ⟨rfl, _, World.drewN_drewN _ _ _⟩ | exact ⟨rfl, _, Eq.trans (World.drewN_drewN _ _ _) (congrArg (World.drewN _) (Nat.add_assoc _ _ _))⟩))); try go_wp2_with (first | (go_at_call 54; clear tkA22; (with_reducible refine (emendationref10_Label.calls k1 (a0.extract 1 (x5_1 : Int).toNat) true _ A22.out).mono ?_); rintro e w' ⟨rfl, ⟨nd, rfl⟩⟩; (try first | exact ⟨rfl, _, World.drewN_drewN _ _ _⟩ | exact ⟨rfl, _, Eq.trans (World.drewN_drewN _ _ _) (congrArg (World.drewN _) (Nat.add_assoc _ _ _))⟩); have tkA27 : True := trivial) | (go_at_call 55; clear tkA27; (with_reducible refine (emendationref07_Dest.calls k1 (a0.extract ((ji24) : Int).toNat a0.size) true _ A27.out).mono ?_); rintro e w' ⟨rfl, ⟨nd, rfl⟩⟩; (try first | exact ⟨rfl, _, World.drewN_drewN _ _ _⟩ | exact ⟨rfl, _, Eq.trans (World.drewN_drewN _ _ _) (congrArg (World.drewN _) (Nat.add_assoc _ _ _))⟩))))
                     go_ret3
                     exact ⟨by first | rfl | (simp; done) | (simp only [← hji10, ← hji15, ← hji24] <;> (first | rfl | simp)) | (simp [*]; done), by repeat (first | exact Drawn0.refl _ | apply Drawn0.step)⟩
                    ·
                     replace c28 := Bool.eq_false_iff.mpr c28
                     subst c28
                     have H1 : (emendationref11_define.l0 k1 a0 ji10) = some (r1, r2, r3) := by rw [if_neg (show ¬ (false = true) by decide)] at H; exact H
                     clear H
                     have H := H1
                     clear H1
                     have H' := Aside0.mk H
                     clear H
                     have p4 : 0 ≤ (0 : Int) := (by omega)
                     have q4 : 0 < a0.size := (by have : (0 : Int) < (a0.size : Int) := of_decide_eq_true (by first | (with_reducible assumption) | assumption); omega)
                     have hx4 : ∀ h : 0 < a0.size, ((a0[0]'h).toNat : Int) = bt a0 0 := bt_at a0 0
                     clear p4
                     have qi4 : (0 < (a0.size : Int)) = True := eq_true (of_decide_eq_true (by first | (with_reducible assumption) | assumption))
                     replace q4 := eq_true q4
                     have p8 : 0 ≤ (x5_1 : Int) := of_decide_eq_true (by first | (with_reducible assumption) | assumption)
                     have q8 : x5_1 < (a0.size : Int) := of_decide_eq_true (by first | (with_reducible assumption) | assumption)
                     have hx8 := bt_at a0 x5_1
                     replace p8 := eq_true p8
                     replace q8 := eq_true q8
                     have p13 : 0 ≤ ((ji10) : Int) := of_decide_eq_true (by first | (with_reducible assumption) | assumption)
                     have q13 : (ji10) < (a0.size : Int) := of_decide_eq_true (by first | (with_reducible assumption) | assumption)
                     have hx13 := bt_at a0 (ji10)
                     replace p13 := eq_true p13
                     replace q13 := eq_true q13
                     have p18 : 0 ≤ ((ji15) : Int) := of_decide_eq_true (by first | (with_reducible assumption) | assumption)
                     have q18 : (ji15) < (a0.size : Int) := of_decide_eq_true (by first | (with_reducible assumption) | assumption)
                     have hx18 := bt_at a0 (ji15)
                     replace p18 := eq_true p18
                     replace q18 := eq_true q18
                     have tkA22 : True := trivial
                     go_wp2_with (first | (go_at_call 54; clear tkA22; (with_reducible refine (emendationref10_Label.calls k1 (a0.extract 1 (x5_1 : Int).toNat) true _ A22.out).mono ?_); rintro e w' ⟨rfl, ⟨nd, rfl⟩⟩; (try first | exact ⟨rfl, _, World.drewN_drewN _ _ _⟩ | exact ⟨rfl, _, Eq.trans (World.drewN_drewN _ _ _) (congrArg (World.drewN _) (Nat.add_assoc _ _ _))⟩); have tkA27 : True := trivial) | (go_at_call 55; clear tkA27; (with_reducible refine (emendationref07_Dest.calls k1 (a0.extract ((ji24) : Int).toNat a0.size) false _ A27.out).mono ?_); rintro e w' ⟨rfl, ⟨nd, rfl⟩⟩; (try first | exact ⟨rfl, _, World.drewN_drewN _ _ _⟩ | exact ⟨rfl, _, Eq.trans (World.drewN_drewN _ _ _) (congrArg (World.drewN _) (Nat.add_assoc _ _ _))⟩)))
                     repeat (go_quiet (first | (go_at_call 54; clear tkA22; (with_reducible refine (emendationref10_Label.calls k1 (a0.extract 1 (x5_1 : Int).toNat) true _ A22.out).mono ?_); rintro e w' ⟨rfl, ⟨nd, rfl⟩⟩; (try first | exact ⟨rfl, _, World.drewN_drewN _ _ _⟩ | exact ⟨rfl, _, Eq.trans (World.drewN_drewN _ _ _) (congrArg (World.drewN _) (Nat.add_assoc _ _ _))⟩); have tkA27 : True := trivial) | (go_at_call 55; clear tkA27; (with_reducible refine (emendationref07_Dest.calls k1 (a0.extract ((ji24) : Int).toNat a0.size) false _ A27.out).mono ?_); rintro e w' ⟨rfl, ⟨nd, rfl⟩⟩; (try first | exact ⟨rfl, _, World.drewN_drewN _ _ _⟩ | exact ⟨rfl, _, Eq.trans (World.drewN_drewN _ _ _) (congrArg (World.drewN _) (Nat.add_assoc _ _ _))⟩))); try go_wp2_with (first | (go_at_call 54; clear tkA22; (with_reducible refine (emendationref10_Label.calls k1 (a0.extract 1 (x5_1 : Int).toNat) true _ A22.out).mono ?_); rintro e w' ⟨rfl, ⟨nd, rfl⟩⟩; (try first | exact ⟨rfl, _, World.drewN_drewN _ _ _⟩ | exact ⟨rfl, _, Eq.trans (World.drewN_drewN _ _ _) (congrArg (World.drewN _) (Nat.add_assoc _ _ _))⟩); have tkA27 : True := trivial) | (go_at_call 55; clear tkA27; (with_reducible refine (emendationref07_Dest.calls k1 (a0.extract ((ji24) : Int).toNat a0.size) false _ A27.out).mono ?_); rintro e w' ⟨rfl, ⟨nd, rfl⟩⟩; (try first | exact ⟨rfl, _, World.drewN_drewN _ _ _⟩ | exact ⟨rfl, _, Eq.trans (World.drewN_drewN _ _ _) (congrArg (World.drewN _) (Nat.add_assoc _ _ _))⟩))))
                     go_roundg k1
                     case measure => have := HK1.out; omega
                     case rel => exact ⟨(ji10), (by first | rfl | (simp; done) | (simp only [← hji10] <;> (first | rfl | simp)) | (simp [*]; done)), H', ⟨by have := HK1.out; omega⟩, by repeat (first | exact Drawn0.refl _ | apply Drawn0.step)⟩
                   ·
                    rw [if_neg c26] at H
                    exact absurd H (by simp)
                  ·
                   rw [if_neg c25] at H
                   exact absurd H (by simp)
                 ·
                  replace c23 := Bool.eq_false_iff.mpr c23
                  subst c23
                  have H1 : (emendationref11_define.l0 k1 a0 ji10) = some (r1, r2, r3) := by rw [if_neg (show ¬ (false = true) by decide)] at H; exact H
                  clear H
                  have H := H1
                  clear H1
                  have H' := Aside0.mk H
                  clear H
                  have p4 : 0 ≤ (0 : Int) := (by omega)
                  have q4 : 0 < a0.size := (by have : (0 : Int) < (a0.size : Int) := of_decide_eq_true (by first | (with_reducible assumption) | assumption); omega)
                  have hx4 : ∀ h : 0 < a0.size, ((a0[0]'h).toNat : Int) = bt a0 0 := bt_at a0 0
                  clear p4
                  have qi4 : (0 < (a0.size : Int)) = True := eq_true (of_decide_eq_true (by first | (with_reducible assumption) | assumption))
                  replace q4 := eq_true q4
                  have p8 : 0 ≤ (x5_1 : Int) := of_decide_eq_true (by first | (with_reducible assumption) | assumption)
                  have q8 : x5_1 < (a0.size : Int) := of_decide_eq_true (by first | (with_reducible assumption) | assumption)
                  have hx8 := bt_at a0 x5_1
                  replace p8 := eq_true p8
                  replace q8 := eq_true q8
                  have p13 : 0 ≤ ((ji10) : Int) := of_decide_eq_true (by first | (with_reducible assumption) | assumption)
                  have q13 : (ji10) < (a0.size : Int) := of_decide_eq_true (by first | (with_reducible assumption) | assumption)
                  have hx13 := bt_at a0 (ji10)
                  replace p13 := eq_true p13
                  replace q13 := eq_true q13
                  have p18 : 0 ≤ ((ji15) : Int) := of_decide_eq_true (by first | (with_reducible assumption) | assumption)
                  have q18 : (ji15) < (a0.size : Int) := of_decide_eq_true (by first | (with_reducible assumption) | assumption)
                  have hx18 := bt_at a0 (ji15)
                  replace p18 := eq_true p18
                  replace q18 := eq_true q18
                  have tkA22 : True := trivial
                  go_wp2_with (first | (go_at_call 54; clear tkA22; (with_reducible refine (emendationref10_Label.calls k1 (a0.extract 1 (x5_1 : Int).toNat) false _ A22.out).mono ?_); rintro e w' ⟨rfl, ⟨nd, rfl⟩⟩; (try first | exact ⟨rfl, _, World.drewN_drewN _ _ _⟩ | exact ⟨rfl, _, Eq.trans (World.drewN_drewN _ _ _) (congrArg (World.drewN _) (Nat.add_assoc _ _ _))⟩)))
                  repeat (go_quiet (first | (go_at_call 54; clear tkA22; (with_reducible refine (emendationref10_Label.calls k1 (a0.extract 1 (x5_1 : Int).toNat) false _ A22.out).mono ?_); rintro e w' ⟨rfl, ⟨nd, rfl⟩⟩; (try first | exact ⟨rfl, _, World.drewN_drewN _ _ _⟩ | exact ⟨rfl, _, Eq.trans (World.drewN_drewN _ _ _) (congrArg (World.drewN _) (Nat.add_assoc _ _ _))⟩))); try go_wp2_with (first | (go_at_call 54; clear tkA22; (with_reducible refine (emendationref10_Label.calls k1 (a0.extract 1 (x5_1 : Int).toNat) false _ A22.out).mono ?_); rintro e w' ⟨rfl, ⟨nd, rfl⟩⟩; (try first | exact ⟨rfl, _, World.drewN_drewN _ _ _⟩ | exact ⟨rfl, _, Eq.trans (World.drewN_drewN _ _ _) (congrArg (World.drewN _) (Nat.add_assoc _ _ _))⟩))))
                  go_roundg k1
                  case measure => have := HK1.out; omega
                  case rel => exact ⟨(ji10), (by first | rfl | (simp; done) | (simp only [← hji10] <;> (first | rfl | simp)) | (simp [*]; done)), H', ⟨by have := HK1.out; omega⟩, by repeat (first | exact Drawn0.refl _ | apply Drawn0.step)⟩
                ·
                 rw [if_neg c21] at H
                 exact absurd H (by simp)
               ·
                rw [if_neg c20] at H
                exact absurd H (by simp)
              ·
               rw [if_neg c19] at H
               have c19b0 : ((bt a0 (ji15)) == 32) = false := beq_eq_false_iff_ne.mpr c19
               have c19b1 : ((bt a0 (ji15)) != 32) = true := bne_iff_ne.mpr c19
               have H' := Aside0.mk H
               clear H
               have p4 : 0 ≤ (0 : Int) := (by omega)
               have q4 : 0 < a0.size := (by have : (0 : Int) < (a0.size : Int) := of_decide_eq_true (by first | (with_reducible assumption) | assumption); omega)
               have hx4 : ∀ h : 0 < a0.size, ((a0[0]'h).toNat : Int) = bt a0 0 := bt_at a0 0
               clear p4
               have qi4 : (0 < (a0.size : Int)) = True := eq_true (of_decide_eq_true (by first | (with_reducible assumption) | assumption))
               replace q4 := eq_true q4
               have p8 : 0 ≤ (x5_1 : Int) := of_decide_eq_true (by first | (with_reducible assumption) | assumption)
               have q8 : x5_1 < (a0.size : Int) := of_decide_eq_true (by first | (with_reducible assumption) | assumption)
               have hx8 := bt_at a0 x5_1
               replace p8 := eq_true p8
               replace q8 := eq_true q8
               have p13 : 0 ≤ ((ji10) : Int) := of_decide_eq_true (by first | (with_reducible assumption) | assumption)
               have q13 : (ji10) < (a0.size : Int) := of_decide_eq_true (by first | (with_reducible assumption) | assumption)
               have hx13 := bt_at a0 (ji10)
               replace p13 := eq_true p13
               replace q13 := eq_true q13
               have p18 : 0 ≤ ((ji15) : Int) := of_decide_eq_true (by first | (with_reducible assumption) | assumption)
               have q18 : (ji15) < (a0.size : Int) := of_decide_eq_true (by first | (with_reducible assumption) | assumption)
               have hx18 := bt_at a0 (ji15)
               replace p18 := eq_true p18
               replace q18 := eq_true q18
               go_wp2
               repeat (go_quiet (fail); try go_wp2)
               go_roundg k1
               case measure => have := HK1.out; omega
               case rel => exact ⟨(ji10), (by first | rfl | (simp; done) | (simp only [← hji10] <;> (first | rfl | simp)) | (simp [*]; done)), H', ⟨by have := HK1.out; omega⟩, by repeat (first | exact Drawn0.refl _ | apply Drawn0.step)⟩
             ·
              rw [if_neg c17] at H
              exact absurd H (by simp)
            ·
             rw [if_neg c16] at H
             exact absurd H (by simp)
           ·
            rw [if_neg c14] at H
            have c14b0 : ((bt a0 (ji10)) == 58) = false := beq_eq_false_iff_ne.mpr c14
            have c14b1 : ((bt a0 (ji10)) != 58) = true := bne_iff_ne.mpr c14
            have H' := Aside0.mk H
            clear H
            have p4 : 0 ≤ (0 : Int) := (by omega)
            have q4 : 0 < a0.size := (by have : (0 : Int) < (a0.size : Int) := of_decide_eq_true (by first | (with_reducible assumption) | assumption); omega)
            have hx4 : ∀ h : 0 < a0.size, ((a0[0]'h).toNat : Int) = bt a0 0 := bt_at a0 0
            clear p4
            have qi4 : (0 < (a0.size : Int)) = True := eq_true (of_decide_eq_true (by first | (with_reducible assumption) | assumption))
            replace q4 := eq_true q4
            have p8 : 0 ≤ (x5_1 : Int) := of_decide_eq_true (by first | (with_reducible assumption) | assumption)
            have q8 : x5_1 < (a0.size : Int) := of_decide_eq_true (by first | (with_reducible assumption) | assumption)
            have hx8 := bt_at a0 x5_1
            replace p8 := eq_true p8
            replace q8 := eq_true q8
            have p13 : 0 ≤ ((ji10) : Int) := of_decide_eq_true (by first | (with_reducible assumption) | assumption)
            have q13 : (ji10) < (a0.size : Int) := of_decide_eq_true (by first | (with_reducible assumption) | assumption)
            have hx13 := bt_at a0 (ji10)
            replace p13 := eq_true p13
            replace q13 := eq_true q13
            go_wp2
            repeat (go_quiet (fail); try go_wp2)
            go_roundg k1
            case measure => have := HK1.out; omega
            case rel => exact ⟨(ji10), (by first | rfl | (simp; done) | (simp only [← hji10] <;> (first | rfl | simp)) | (simp [*]; done)), H', ⟨by have := HK1.out; omega⟩, by repeat (first | exact Drawn0.refl _ | apply Drawn0.step)⟩
          ·
           rw [if_neg c12] at H
           exact absurd H (by simp)
         ·
          rw [if_neg c11] at H
          exact absurd H (by simp)
        ·
         rw [if_neg c9] at H
         have c9b0 : ((bt a0 x5_1) == 93) = false := beq_eq_false_iff_ne.mpr c9
         have c9b1 : ((bt a0 x5_1) != 93) = true := bne_iff_ne.mpr c9
         have H' := Aside0.mk H
         clear H
         have p4 : 0 ≤ (0 : Int) := (by omega)
         have q4 : 0 < a0.size := (by have : (0 : Int) < (a0.size : Int) := of_decide_eq_true (by first | (with_reducible assumption) | assumption); omega)
         have hx4 : ∀ h : 0 < a0.size, ((a0[0]'h).toNat : Int) = bt a0 0 := bt_at a0 0
         clear p4
         have qi4 : (0 < (a0.size : Int)) = True := eq_true (of_decide_eq_true (by first | (with_reducible assumption) | assumption))
         replace q4 := eq_true q4
         have p8 : 0 ≤ (x5_1 : Int) := of_decide_eq_true (by first | (with_reducible assumption) | assumption)
         have q8 : x5_1 < (a0.size : Int) := of_decide_eq_true (by first | (with_reducible assumption) | assumption)
         have hx8 := bt_at a0 x5_1
         replace p8 := eq_true p8
         replace q8 := eq_true q8
         go_wp2
         repeat (go_quiet (fail); try go_wp2)
         go_roundg k1
         case measure => have := HK1.out; omega
         case rel => exact ⟨(wrap64 (x5_1 + 1)), (by first | rfl | (simp; done) | (simp [*]; done) | (simp [bne, beq_nil_E]; done)), H', ⟨by have := HK1.out; omega⟩, by repeat (first | exact Drawn0.refl _ | apply Drawn0.step)⟩
       ·
        rw [if_neg c7] at H
        exact absurd H (by simp)
      ·
       rw [if_neg c6] at H
       exact absurd H (by simp)
     ·
      rw [if_neg c5] at H
      have c5b0 : ((bt a0 0) == 91) = false := beq_eq_false_iff_ne.mpr c5
      have c5b1 : ((bt a0 0) != 91) = true := bne_iff_ne.mpr c5
      have H' := Aside0.mk H
      clear H
      have p4 : 0 ≤ (0 : Int) := (by omega)
      have q4 : 0 < a0.size := (by have : (0 : Int) < (a0.size : Int) := of_decide_eq_true (by first | (with_reducible assumption) | assumption); omega)
      have hx4 : ∀ h : 0 < a0.size, ((a0[0]'h).toNat : Int) = bt a0 0 := bt_at a0 0
      clear p4
      have qi4 : (0 < (a0.size : Int)) = True := eq_true (of_decide_eq_true (by first | (with_reducible assumption) | assumption))
      replace q4 := eq_true q4
      go_wp2
      repeat (go_quiet (fail); try go_wp2)
      go_roundg k1
      case measure => have := HK1.out; omega
      case rel => exact ⟨(wrap64 (x5_1 + 1)), (by first | rfl | (simp; done) | (simp [*]; done) | (simp [bne, beq_nil_E]; done)), H', ⟨by have := HK1.out; omega⟩, by repeat (first | exact Drawn0.refl _ | apply Drawn0.step)⟩
    ·
     rw [if_neg c3] at H
     exact absurd H (by simp)
   ·
    rw [if_neg c2] at H
    have c2b0 : decide ((wrap64 (x5_1 + 3)) < (a0.size : Int)) = false := decide_eq_false c2
    clear c2
    simp only [Option.some.injEq, Prod.mk.injEq] at H
    obtain ⟨rfl, rfl, rfl⟩ := H
    go_wp2
    repeat (go_quiet (fail); try go_wp2)
    go_ret3
    exact ⟨by first | rfl | (simp; done) | (simp [*]; done) | (simp [bne, beq_nil_E]; done), by repeat (first | exact Drawn0.refl _ | apply Drawn0.step)⟩

end Go.Proofs.YticaofendehebaaDoor.X
