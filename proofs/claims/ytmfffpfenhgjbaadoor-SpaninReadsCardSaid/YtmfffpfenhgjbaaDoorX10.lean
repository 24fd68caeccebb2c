-- Written by a program of this session (wip/mkprint.py over the kit's print) out of the translation; Lean checks it.
import Derived.Test.YtmfffpfenhgjbaaDoorX0
import Derived.Test.YtmfffpfenhgjbaaDoorX4
import Derived.Test.YtmfffpfenhgjbaaDoorX9
namespace Go.Proofs.YtmfffpfenhgjbaaDoor.X
open Go.RowKit Go.Proofs.YtmfffpfenhgjbaaDoor.G Go.Proofs.YtmfffpfenhgjbaaDoorW.PrintWords Go.Proofs.YtmfffpfenhgjbaaDoorW.PrintLast Go.Proofs.YtmfffpfenhgjbaaDoorW.PrintMore
attribute [local go_sem] max2_int min2_int max_two min_two max_three min_three max_four min_four   -- for this text's walks alone
set_option linter.unusedVariables false
set_option linter.unusedSimpArgs false

/-! ### emendationref08_Clean: function 24 -/
def emendationref08_Clean.l0 : Nat → ByteArray → Int → Option (Bool)
 | 0, _, _ => none
 | k + 1, x0, x3 => if x3 < (x0.size : Int) then (if 0 ≤ x3 then (if (bt x0 x3) = 13 then (some false) else (if x3 = 0 then ((emendationref08_gap.f (bt x0 x3)).bind fun t195 => (if t195 = true then (some false) else (if x3 > 0 then (if (bt x0 x3) = 10 then (if 0 ≤ (wrap64 (x3 - 1)) then (if (wrap64 (x3 - 1)) < (x0.size : Int) then ((emendationref08_gap.f (bt x0 (wrap64 (x3 - 1)))).bind fun t196 => (if t196 = true then (some false) else (if (bt x0 (wrap64 (x3 - 1))) = 10 then ((emendationref08_gap.f (bt x0 x3)).bind fun t197 => (if t197 = true then (some false) else (emendationref08_Clean.l0 k x0 (wrap64 (x3 + 1))))) else (emendationref08_Clean.l0 k x0 (wrap64 (x3 + 1)))))) else (none)) else (none)) else (if 0 ≤ (wrap64 (x3 - 1)) then (if (wrap64 (x3 - 1)) < (x0.size : Int) then (if (bt x0 (wrap64 (x3 - 1))) = 10 then ((emendationref08_gap.f (bt x0 x3)).bind fun t198 => (if t198 = true then (some false) else (emendationref08_Clean.l0 k x0 (wrap64 (x3 + 1))))) else (emendationref08_Clean.l0 k x0 (wrap64 (x3 + 1)))) else (none)) else (none))) else (emendationref08_Clean.l0 k x0 (wrap64 (x3 + 1)))))) else (if x3 = (wrap64 ((x0.size : Int) - 1)) then ((emendationref08_gap.f (bt x0 x3)).bind fun t199 => (if t199 = true then (some false) else (if x3 > 0 then (if (bt x0 x3) = 10 then (if 0 ≤ (wrap64 (x3 - 1)) then (if (wrap64 (x3 - 1)) < (x0.size : Int) then ((emendationref08_gap.f (bt x0 (wrap64 (x3 - 1)))).bind fun t200 => (if t200 = true then (some false) else (if (bt x0 (wrap64 (x3 - 1))) = 10 then ((emendationref08_gap.f (bt x0 x3)).bind fun t201 => (if t201 = true then (some false) else (emendationref08_Clean.l0 k x0 (wrap64 (x3 + 1))))) else (emendationref08_Clean.l0 k x0 (wrap64 (x3 + 1)))))) else (none)) else (none)) else (if 0 ≤ (wrap64 (x3 - 1)) then (if (wrap64 (x3 - 1)) < (x0.size : Int) then (if (bt x0 (wrap64 (x3 - 1))) = 10 then ((emendationref08_gap.f (bt x0 x3)).bind fun t202 => (if t202 = true then (some false) else (emendationref08_Clean.l0 k x0 (wrap64 (x3 + 1))))) else (emendationref08_Clean.l0 k x0 (wrap64 (x3 + 1)))) else (none)) else (none))) else (emendationref08_Clean.l0 k x0 (wrap64 (x3 + 1)))))) else (if x3 > 0 then (if (bt x0 x3) = 10 then (if 0 ≤ (wrap64 (x3 - 1)) then (if (wrap64 (x3 - 1)) < (x0.size : Int) then ((emendationref08_gap.f (bt x0 (wrap64 (x3 - 1)))).bind fun t203 => (if t203 = true then (some false) else (if (bt x0 (wrap64 (x3 - 1))) = 10 then ((emendationref08_gap.f (bt x0 x3)).bind fun t204 => (if t204 = true then (some false) else (emendationref08_Clean.l0 k x0 (wrap64 (x3 + 1))))) else (emendationref08_Clean.l0 k x0 (wrap64 (x3 + 1)))))) else (none)) else (none)) else (if 0 ≤ (wrap64 (x3 - 1)) then (if (wrap64 (x3 - 1)) < (x0.size : Int) then (if (bt x0 (wrap64 (x3 - 1))) = 10 then ((emendationref08_gap.f (bt x0 x3)).bind fun t205 => (if t205 = true then (some false) else (emendationref08_Clean.l0 k x0 (wrap64 (x3 + 1))))) else (emendationref08_Clean.l0 k x0 (wrap64 (x3 + 1)))) else (none)) else (none))) else (emendationref08_Clean.l0 k x0 (wrap64 (x3 + 1))))))) else (none)) else (some true)
def emendationref08_Clean.f (k : Nat) (a0 : ByteArray) : Option (Bool) := (emendationref01_Check.f k a0).bind fun t194 => (if t194 = 0 then (emendationref08_Clean.l0 k a0 0) else (some false))
set_option maxHeartbeats 8000000 in
set_option maxRecDepth 100000 in
theorem emendationref08_Clean.calls (k : Nat) (a0 : ByteArray) (r : Bool) (w : World) (h : emendationref08_Clean.f k a0 = some r) :
  Calls Tryd.prog 24 #[.string a0] w fun e w' => e = .returned (.bool r) ∧ Drawn0 w w' := by
 have H : ((emendationref01_Check.f k a0).bind fun t194 => (if t194 = 0 then (emendationref08_Clean.l0 k a0 0) else (some false))) = some r := h
 clear h
 replace H := Option.bind_eq_some_iff.mp H
 obtain ⟨t194, A20, H⟩ := H
 replace H : (if t194 = 0 then (emendationref08_Clean.l0 k a0 0) else (some false)) = some r := H
 have A2 := Aside0.mk A20
 clear A20
 by_cases c3 : t194 = 0
 ·
  rw [if_pos c3] at H
  have c3b0 : (t194 == 0) = true := beq_iff_eq.mpr c3
  have c3b1 : (t194 != 0) = false := bne_eq_false_iff_eq.mpr c3
  clear c3
  have H' := Aside0.mk H
  clear H
  go_enter Tryd.func24, Tryd.ntmps24
  go_wp2_with (first | ((with_reducible refine gate_callee (f := 49) rfl ?_); refine goesL_ (some 5) rfl rfl Tryd.func49 (by kernel_rfl) rfl #[.string a0] rfl (by (try simp only [List.map_toArray, List.map_cons, List.map_nil]); first | done | rfl | (simp only [List.length_drop, List.length_take]; rfl)) ?_; (with_reducible refine (emendationref01_Check.calls k a0 t194 _ A2.out).mono ?_); rintro e w' ⟨rfl, ⟨nd, rfl⟩⟩; refine ⟨_, rfl, ?_⟩))
  go_loopg [3] k (fun kq v3 w' => ∃ (x3_1 : Int), v3 = .int .i64 x3_1 ∧ Aside0 (emendationref08_Clean.l0 kq a0 x3_1 = some r) ∧ Aside0 (kq ≤ k) ∧ Drawn0 w w')
  case atStart => exact ⟨(0), (by first | rfl | (simp; done) | (simp [*]; done) | (simp [bne, beq_nil_E]; done)), H', ⟨Nat.le_refl _⟩, by repeat (first | exact Drawn0.refl _ | apply Drawn0.step)⟩
  case round =>
   clear H'
   try clear c2
   try clear p2
   try clear c3
   try clear c3b0
   try clear c3b1
   obtain ⟨x3_1, rfl, HA, HK1, ⟨m1, rfl⟩⟩ := hrel
   cases gk with
   | zero => exact absurd HA.out (by simp [emendationref08_Clean.l0])
   | succ k1 =>
    have H := HA.out
    clear HA
    simp only [emendationref08_Clean.l0] at H
    by_cases c4 : x3_1 < (a0.size : Int)
    ·
     rw [if_pos c4] at H
     have c4b0 : decide (x3_1 < (a0.size : Int)) = true := decide_eq_true c4
     clear c4
     by_cases c5 : 0 ≤ x3_1
     ·
      rw [if_pos c5] at H
      have c5b0 : decide (0 ≤ x3_1) = true := decide_eq_true c5
      clear c5
      by_cases c7 : (bt a0 x3_1) = 13
      ·
       rw [if_pos c7] at H
       have c7b0 : ((bt a0 x3_1) == 13) = true := beq_iff_eq.mpr c7
       have c7b1 : ((bt a0 x3_1) != 13) = false := bne_eq_false_iff_eq.mpr c7
       clear c7
       obtain rfl := Option.some.inj H
       have p6 : 0 ≤ (x3_1 : Int) := of_decide_eq_true (by first | (with_reducible assumption) | assumption)
       have q6 : x3_1 < (a0.size : Int) := of_decide_eq_true (by first | (with_reducible assumption) | assumption)
       have hx6 := bt_at a0 x3_1
       replace p6 := eq_true p6
       replace q6 := eq_true q6
       go_wp2
       go_ret
       exact ⟨by first | rfl | (simp; done) | (simp [*]; done) | (simp [bne, beq_nil_E]; done), by repeat (first | exact Drawn0.refl _ | apply Drawn0.step)⟩
      ·
       rw [if_neg c7] at H
       have c7b0 : ((bt a0 x3_1) == 13) = false := beq_eq_false_iff_ne.mpr c7
       have c7b1 : ((bt a0 x3_1) != 13) = true := bne_iff_ne.mpr c7
       by_cases c8 : x3_1 = 0
       ·
        rw [if_pos c8] at H
        have c8b0 : (x3_1 == 0) = true := beq_iff_eq.mpr c8
        have c8b1 : (x3_1 != 0) = false := bne_eq_false_iff_eq.mpr c8
        clear c8
        replace H := Option.bind_eq_some_iff.mp H
        obtain ⟨t195, A100, H⟩ := H
        replace H : (if t195 = true then (some false) else (if x3_1 > 0 then (if (bt a0 x3_1) = 10 then (if 0 ≤ (wrap64 (x3_1 - 1)) then (if (wrap64 (x3_1 - 1)) < (a0.size : Int) then ((emendationref08_gap.f (bt a0 (wrap64 (x3_1 - 1)))).bind fun t196 => (if t196 = true then (some false) else (if (bt a0 (wrap64 (x3_1 - 1))) = 10 then ((emendationref08_gap.f (bt a0 x3_1)).bind fun t197 => (if t197 = true then (some false) else (emendationref08_Clean.l0 k1 a0 (wrap64 (x3_1 + 1))))) else (emendationref08_Clean.l0 k1 a0 (wrap64 (x3_1 + 1)))))) else (none)) else (none)) else (if 0 ≤ (wrap64 (x3_1 - 1)) then (if (wrap64 (x3_1 - 1)) < (a0.size : Int) then (if (bt a0 (wrap64 (x3_1 - 1))) = 10 then ((emendationref08_gap.f (bt a0 x3_1)).bind fun t198 => (if t198 = true then (some false) else (emendationref08_Clean.l0 k1 a0 (wrap64 (x3_1 + 1))))) else (emendationref08_Clean.l0 k1 a0 (wrap64 (x3_1 + 1)))) else (none)) else (none))) else (emendationref08_Clean.l0 k1 a0 (wrap64 (x3_1 + 1))))) = some r := H
        have A10 := Aside0.mk A100
        clear A100
        by_cases c11 : t195 = true
        ·
         subst c11
         have H1 : (some false) = some r := by rw [if_pos rfl] at H; exact H
         clear H
         have H := H1
         clear H1
         obtain rfl := Option.some.inj H
         have p6 : 0 ≤ (x3_1 : Int) := of_decide_eq_true (by first | (with_reducible assumption) | assumption)
         have q6 : x3_1 < (a0.size : Int) := of_decide_eq_true (by first | (with_reducible assumption) | assumption)
         have hx6 := bt_at a0 x3_1
         replace p6 := eq_true p6
         replace q6 := eq_true q6
         have p9 : 0 ≤ (x3_1 : Int) := of_decide_eq_true (by first | (with_reducible assumption) | assumption)
         have q9 : x3_1 < (a0.size : Int) := of_decide_eq_true (by first | (with_reducible assumption) | assumption)
         have hx9 := bt_at a0 x3_1
         replace p9 := eq_true p9
         replace q9 := eq_true q9
         have tkA10 : True := trivial
         go_wp2_with (first | (go_at_call 50; clear tkA10; (with_reducible refine (emendationref08_gap.calls (bt a0 x3_1) true _ A10.out).mono ?_); rintro e w' ⟨rfl, ⟨nd, rfl⟩⟩))
         go_ret
         exact ⟨by first | rfl | (simp; done) | (simp [*]; done) | (simp [bne, beq_nil_E]; done), by repeat (first | exact Drawn0.refl _ | apply Drawn0.step)⟩
        ·
         replace c11 := Bool.eq_false_iff.mpr c11
         subst c11
         have H1 : (if x3_1 > 0 then (if (bt a0 x3_1) = 10 then (if 0 ≤ (wrap64 (x3_1 - 1)) then (if (wrap64 (x3_1 - 1)) < (a0.size : Int) then ((emendationref08_gap.f (bt a0 (wrap64 (x3_1 - 1)))).bind fun t196 => (if t196 = true then (some false) else (if (bt a0 (wrap64 (x3_1 - 1))) = 10 then ((emendationref08_gap.f (bt a0 x3_1)).bind fun t197 => (if t197 = true then (some false) else (emendationref08_Clean.l0 k1 a0 (wrap64 (x3_1 + 1))))) else (emendationref08_Clean.l0 k1 a0 (wrap64 (x3_1 + 1)))))) else (none)) else (none)) else (if 0 ≤ (wrap64 (x3_1 - 1)) then (if (wrap64 (x3_1 - 1)) < (a0.size : Int) then (if (bt a0 (wrap64 (x3_1 - 1))) = 10 then ((emendationref08_gap.f (bt a0 x3_1)).bind fun t198 => (if t198 = true then (some false) else (emendationref08_Clean.l0 k1 a0 (wrap64 (x3_1 + 1))))) else (emendationref08_Clean.l0 k1 a0 (wrap64 (x3_1 + 1)))) else (none)) else (none))) else (emendationref08_Clean.l0 k1 a0 (wrap64 (x3_1 + 1)))) = some r := by rw [if_neg (show ¬ (false = true) by decide)] at H; exact H
         clear H
         have H := H1
         clear H1
         by_cases c12 : x3_1 > 0
         ·
          rw [if_pos c12] at H
          have c12b0 : decide (0 < x3_1) = true := decide_eq_true c12
          clear c12
          by_cases c14 : (bt a0 x3_1) = 10
          ·
           rw [if_pos c14] at H
           have c14b0 : ((bt a0 x3_1) == 10) = true := beq_iff_eq.mpr c14
           have c14b1 : ((bt a0 x3_1) != 10) = false := bne_eq_false_iff_eq.mpr c14
           clear c14
           obtain ⟨ji15, hji15⟩ : ∃ j_ : Int, (wrap64 (x3_1 - 1)) = j_ := ⟨_, rfl⟩
           replace H : (if 0 ≤ (ji15) then (if (ji15) < (a0.size : Int) then ((emendationref08_gap.f (bt a0 (ji15))).bind fun t196 => (if t196 = true then (some false) else (if (bt a0 (ji15)) = 10 then ((emendationref08_gap.f (bt a0 x3_1)).bind fun t197 => (if t197 = true then (some false) else (emendationref08_Clean.l0 k1 a0 (wrap64 (x3_1 + 1))))) else (emendationref08_Clean.l0 k1 a0 (wrap64 (x3_1 + 1)))))) else (none)) else (none)) = some r := by first | (rw [hji15] at H; exact H) | (simp only [hji15] at H ⊢; exact H)
           (try rw [hji15] at A10)
           have hji15w : (IntKind.i64.wrap (x3_1 - 1)) = ji15 := (i64_w _).trans hji15
           by_cases c16 : 0 ≤ (ji15)
           ·
            rw [if_pos c16] at H
            have c16b0 : decide (0 ≤ (ji15)) = true := decide_eq_true c16
            clear c16
            by_cases c17 : (ji15) < (a0.size : Int)
            ·
             rw [if_pos c17] at H
             have c17b0 : decide ((ji15) < (a0.size : Int)) = true := decide_eq_true c17
             clear c17
             replace H := Option.bind_eq_some_iff.mp H
             obtain ⟨t196, A190, H⟩ := H
             replace H : (if t196 = true then (some false) else (if (bt a0 (ji15)) = 10 then ((emendationref08_gap.f (bt a0 x3_1)).bind fun t197 => (if t197 = true then (some false) else (emendationref08_Clean.l0 k1 a0 (wrap64 (x3_1 + 1))))) else (emendationref08_Clean.l0 k1 a0 (wrap64 (x3_1 + 1))))) = some r := H
             have A19 := Aside0.mk A190
             clear A190
             by_cases c20 : t196 = true
             ·
              subst c20
              have H1 : (some false) = some r := by rw [if_pos rfl] at H; exact H
              clear H
              have H := H1
              clear H1
              obtain rfl := Option.some.inj H
              have p6 : 0 ≤ (x3_1 : Int) := of_decide_eq_true (by first | (with_reducible assumption) | assumption)
              have q6 : x3_1 < (a0.size : Int) := of_decide_eq_true (by first | (with_reducible assumption) | assumption)
              have hx6 := bt_at a0 x3_1
              replace p6 := eq_true p6
              replace q6 := eq_true q6
              have p9 : 0 ≤ (x3_1 : Int) := of_decide_eq_true (by first | (with_reducible assumption) | assumption)
              have q9 : x3_1 < (a0.size : Int) := of_decide_eq_true (by first | (with_reducible assumption) | assumption)
              have hx9 := bt_at a0 x3_1
              replace p9 := eq_true p9
              replace q9 := eq_true q9
              have tkA10 : True := trivial
              go_wp2_with (first | (go_at_call 50; clear tkA10; (with_reducible refine (emendationref08_gap.calls (bt a0 x3_1) false _ A10.out).mono ?_); rintro e w' ⟨rfl, ⟨nd, rfl⟩⟩; have p13 : 0 ≤ (x3_1 : Int) := of_decide_eq_true (by first | (with_reducible assumption) | assumption); have q13 : x3_1 < (a0.size : Int) := of_decide_eq_true (by first | (with_reducible assumption) | assumption); have hx13 := bt_at a0 x3_1; replace p13 := eq_true p13; replace q13 := eq_true q13; have p18 : 0 ≤ ((ji15) : Int) := of_decide_eq_true (by first | (with_reducible assumption) | assumption); have q18 : (ji15) < (a0.size : Int) := of_decide_eq_true (by first | (with_reducible assumption) | assumption); have hx18 := bt_at a0 (ji15); replace p18 := eq_true p18; replace q18 := eq_true q18; have tkA19 : True := trivial) | (go_at_call 50; clear tkA19; (with_reducible refine (emendationref08_gap.calls (bt a0 (ji15)) true _ A19.out).mono ?_); rintro e w' ⟨rfl, ⟨nd, rfl⟩⟩))
              go_ret
              exact ⟨by first | rfl | (simp; done) | (simp only [← hji15] <;> (first | rfl | simp)) | (simp [*]; done), by repeat (first | exact Drawn0.refl _ | apply Drawn0.step)⟩
             ·
              replace c20 := Bool.eq_false_iff.mpr c20
              subst c20
              have H1 : (if (bt a0 (ji15)) = 10 then ((emendationref08_gap.f (bt a0 x3_1)).bind fun t197 => (if t197 = true then (some false) else (emendationref08_Clean.l0 k1 a0 (wrap64 (x3_1 + 1))))) else (emendationref08_Clean.l0 k1 a0 (wrap64 (x3_1 + 1)))) = some r := by rw [if_neg (show ¬ (false = true) by decide)] at H; exact H
              clear H
              have H := H1
              clear H1
              by_cases c22 : (bt a0 (ji15)) = 10
              ·
               rw [if_pos c22] at H
               have c22b0 : ((bt a0 (ji15)) == 10) = true := beq_iff_eq.mpr c22
               have c22b1 : ((bt a0 (ji15)) != 10) = false := bne_eq_false_iff_eq.mpr c22
               clear c22
               replace H := Option.bind_eq_some_iff.mp H
               obtain ⟨t197, A240, H⟩ := H
               replace H : (if t197 = true then (some false) else (emendationref08_Clean.l0 k1 a0 (wrap64 (x3_1 + 1)))) = some r := H
               have A24 := Aside0.mk A240
               clear A240
               by_cases c25 : t197 = true
               ·
                subst c25
                have H1 : (some false) = some r := by rw [if_pos rfl] at H; exact H
                clear H
                have H := H1
                clear H1
                obtain rfl := Option.some.inj H
                have p6 : 0 ≤ (x3_1 : Int) := of_decide_eq_true (by first | (with_reducible assumption) | assumption)
                have q6 : x3_1 < (a0.size : Int) := of_decide_eq_true (by first | (with_reducible assumption) | assumption)
                have hx6 := bt_at a0 x3_1
                replace p6 := eq_true p6
                replace q6 := eq_true q6
                have p9 : 0 ≤ (x3_1 : Int) := of_decide_eq_true (by first | (with_reducible assumption) | assumption)
                have q9 : x3_1 < (a0.size : Int) := of_decide_eq_true (by first | (with_reducible assumption) | assumption)
                have hx9 := bt_at a0 x3_1
                replace p9 := eq_true p9
                replace q9 := eq_true q9
                have tkA10 : True := trivial
                go_wp2_with (first | (go_at_call 50; clear tkA10; (with_reducible refine (emendationref08_gap.calls (bt a0 x3_1) false _ A10.out).mono ?_); rintro e w' ⟨rfl, ⟨nd, rfl⟩⟩; have p13 : 0 ≤ (x3_1 : Int) := of_decide_eq_true (by first | (with_reducible assumption) | assumption); have q13 : x3_1 < (a0.size : Int) := of_decide_eq_true (by first | (with_reducible assumption) | assumption); have hx13 := bt_at a0 x3_1; replace p13 := eq_true p13; replace q13 := eq_true q13; have p18 : 0 ≤ ((ji15) : Int) := of_decide_eq_true (by first | (with_reducible assumption) | assumption); have q18 : (ji15) < (a0.size : Int) := of_decide_eq_true (by first | (with_reducible assumption) | assumption); have hx18 := bt_at a0 (ji15); replace p18 := eq_true p18; replace q18 := eq_true q18; have tkA19 : True := trivial) | (go_at_call 50; clear tkA19; (with_reducible refine (emendationref08_gap.calls (bt a0 (ji15)) false _ A19.out).mono ?_); rintro e w' ⟨rfl, ⟨nd, rfl⟩⟩; have p21 : 0 ≤ ((ji15) : Int) := of_decide_eq_true (by first | (with_reducible assumption) | assumption); have q21 : (ji15) < (a0.size : Int) := of_decide_eq_true (by first | (with_reducible assumption) | assumption); have hx21 := bt_at a0 (ji15); replace p21 := eq_true p21; replace q21 := eq_true q21; have p23 : 0 ≤ (x3_1 : Int) := of_decide_eq_true (by first | (with_reducible assumption) | assumption); have q23 : x3_1 < (a0.size : Int) := of_decide_eq_true (by first | (with_reducible assumption) | assumption); have hx23 := bt_at a0 x3_1; replace p23 := eq_true p23; replace q23 := eq_true q23; have tkA24 : True := trivial) | (go_at_call 50; clear tkA24; (with_reducible refine (emendationref08_gap.calls (bt a0 x3_1) true _ A24.out).mono ?_); rintro e w' ⟨rfl, ⟨nd, rfl⟩⟩))
                go_ret
                exact ⟨by first | rfl | (simp; done) | (simp only [← hji15] <;> (first | rfl | simp)) | (simp [*]; done), by repeat (first | exact Drawn0.refl _ | apply Drawn0.step)⟩
               ·
                replace c25 := Bool.eq_false_iff.mpr c25
                subst c25
                have H1 : (emendationref08_Clean.l0 k1 a0 (wrap64 (x3_1 + 1))) = some r := by rw [if_neg (show ¬ (false = true) by decide)] at H; exact H
                clear H
                have H := H1
                clear H1
                have H' := Aside0.mk H
                clear H
                have p6 : 0 ≤ (x3_1 : Int) := of_decide_eq_true (by first | (with_reducible assumption) | assumption)
                have q6 : x3_1 < (a0.size : Int) := of_decide_eq_true (by first | (with_reducible assumption) | assumption)
                have hx6 := bt_at a0 x3_1
                replace p6 := eq_true p6
                replace q6 := eq_true q6
                have p9 : 0 ≤ (x3_1 : Int) := of_decide_eq_true (by first | (with_reducible assumption) | assumption)
                have q9 : x3_1 < (a0.size : Int) := of_decide_eq_true (by first | (with_reducible assumption) | assumption)
                have hx9 := bt_at a0 x3_1
                replace p9 := eq_true p9
                replace q9 := eq_true q9
                have tkA10 : True := trivial
                go_wp2_with (first | (go_at_call 50; clear tkA10; (with_reducible refine (emendationref08_gap.calls (bt a0 x3_1) false _ A10.out).mono ?_); rintro e w' ⟨rfl, ⟨nd, rfl⟩⟩; have p13 : 0 ≤ (x3_1 : Int) := of_decide_eq_true (by first | (with_reducible assumption) | assumption); have q13 : x3_1 < (a0.size : Int) := of_decide_eq_true (by first | (with_reducible assumption) | assumption); have hx13 := bt_at a0 x3_1; replace p13 := eq_true p13; replace q13 := eq_true q13; have p18 : 0 ≤ ((ji15) : Int) := of_decide_eq_true (by first | (with_reducible assumption) | assumption); have q18 : (ji15) < (a0.size : Int) := of_decide_eq_true (by first | (with_reducible assumption) | assumption); have hx18 := bt_at a0 (ji15); replace p18 := eq_true p18; replace q18 := eq_true q18; have tkA19 : True := trivial) | (go_at_call 50; clear tkA19; (with_reducible refine (emendationref08_gap.calls (bt a0 (ji15)) false _ A19.out).mono ?_); rintro e w' ⟨rfl, ⟨nd, rfl⟩⟩; have p21 : 0 ≤ ((ji15) : Int) := of_decide_eq_true (by first | (with_reducible assumption) | assumption); have q21 : (ji15) < (a0.size : Int) := of_decide_eq_true (by first | (with_reducible assumption) | assumption); have hx21 := bt_at a0 (ji15); replace p21 := eq_true p21; replace q21 := eq_true q21; have p23 : 0 ≤ (x3_1 : Int) := of_decide_eq_true (by first | (with_reducible assumption) | assumption); have q23 : x3_1 < (a0.size : Int) := of_decide_eq_true (by first | (with_reducible assumption) | assumption); have hx23 := bt_at a0 x3_1; replace p23 := eq_true p23; replace q23 := eq_true q23; have tkA24 : True := trivial) | (go_at_call 50; clear tkA24; (with_reducible refine (emendationref08_gap.calls (bt a0 x3_1) false _ A24.out).mono ?_); rintro e w' ⟨rfl, ⟨nd, rfl⟩⟩))
                go_roundg k1
                case measure => have := HK1.out; omega
                case rel => exact ⟨(wrap64 (x3_1 + 1)), (by first | rfl | (simp; done) | (simp [*]; done) | (simp [bne, beq_nil_E]; done)), H', ⟨by have := HK1.out; omega⟩, by repeat (first | exact Drawn0.refl _ | apply Drawn0.step)⟩
              ·
               rw [if_neg c22] at H
               have c22b0 : ((bt a0 (ji15)) == 10) = false := beq_eq_false_iff_ne.mpr c22
               have c22b1 : ((bt a0 (ji15)) != 10) = true := bne_iff_ne.mpr c22
               have H' := Aside0.mk H
               clear H
               have p6 : 0 ≤ (x3_1 : Int) := of_decide_eq_true (by first | (with_reducible assumption) | assumption)
               have q6 : x3_1 < (a0.size : Int) := of_decide_eq_true (by first | (with_reducible assumption) | assumption)
               have hx6 := bt_at a0 x3_1
               replace p6 := eq_true p6
               replace q6 := eq_true q6
               have p9 : 0 ≤ (x3_1 : Int) := of_decide_eq_true (by first | (with_reducible assumption) | assumption)
               have q9 : x3_1 < (a0.size : Int) := of_decide_eq_true (by first | (with_reducible assumption) | assumption)
               have hx9 := bt_at a0 x3_1
               replace p9 := eq_true p9
               replace q9 := eq_true q9
               have tkA10 : True := trivial
               go_wp2_with (first | (go_at_call 50; clear tkA10; (with_reducible refine (emendationref08_gap.calls (bt a0 x3_1) false _ A10.out).mono ?_); rintro e w' ⟨rfl, ⟨nd, rfl⟩⟩; have p13 : 0 ≤ (x3_1 : Int) := of_decide_eq_true (by first | (with_reducible assumption) | assumption); have q13 : x3_1 < (a0.size : Int) := of_decide_eq_true (by first | (with_reducible assumption) | assumption); have hx13 := bt_at a0 x3_1; replace p13 := eq_true p13; replace q13 := eq_true q13; have p18 : 0 ≤ ((ji15) : Int) := of_decide_eq_true (by first | (with_reducible assumption) | assumption); have q18 : (ji15) < (a0.size : Int) := of_decide_eq_true (by first | (with_reducible assumption) | assumption); have hx18 := bt_at a0 (ji15); replace p18 := eq_true p18; replace q18 := eq_true q18; have tkA19 : True := trivial) | (go_at_call 50; clear tkA19; (with_reducible refine (emendationref08_gap.calls (bt a0 (ji15)) false _ A19.out).mono ?_); rintro e w' ⟨rfl, ⟨nd, rfl⟩⟩; have p21 : 0 ≤ ((ji15) : Int) := of_decide_eq_true (by first | (with_reducible assumption) | assumption); have q21 : (ji15) < (a0.size : Int) := of_decide_eq_true (by first | (with_reducible assumption) | assumption); have hx21 := bt_at a0 (ji15); replace p21 := eq_true p21; replace q21 := eq_true q21))
               go_roundg k1
               case measure => have := HK1.out; omega
               case rel => exact ⟨(wrap64 (x3_1 + 1)), (by first | rfl | (simp; done) | (simp [*]; done) | (simp [bne, beq_nil_E]; done)), H', ⟨by have := HK1.out; omega⟩, by repeat (first | exact Drawn0.refl _ | apply Drawn0.step)⟩
            ·
             rw [if_neg c17] at H
             exact absurd H (by simp)
           ·
            rw [if_neg c16] at H
            exact absurd H (by simp)
          ·
           rw [if_neg c14] at H
           have c14b0 : ((bt a0 x3_1) == 10) = false := beq_eq_false_iff_ne.mpr c14
           have c14b1 : ((bt a0 x3_1) != 10) = true := bne_iff_ne.mpr c14
           obtain ⟨ji26, hji26⟩ : ∃ j_ : Int, (wrap64 (x3_1 - 1)) = j_ := ⟨_, rfl⟩
           replace H : (if 0 ≤ (ji26) then (if (ji26) < (a0.size : Int) then (if (bt a0 (ji26)) = 10 then ((emendationref08_gap.f (bt a0 x3_1)).bind fun t198 => (if t198 = true then (some false) else (emendationref08_Clean.l0 k1 a0 (wrap64 (x3_1 + 1))))) else (emendationref08_Clean.l0 k1 a0 (wrap64 (x3_1 + 1)))) else (none)) else (none)) = some r := by first | (rw [hji26] at H; exact H) | (simp only [hji26] at H ⊢; exact H)
           (try rw [hji26] at A10)
           have hji26w : (IntKind.i64.wrap (x3_1 - 1)) = ji26 := (i64_w _).trans hji26
           by_cases c27 : 0 ≤ (ji26)
           ·
            rw [if_pos c27] at H
            have c27b0 : decide (0 ≤ (ji26)) = true := decide_eq_true c27
            clear c27
            by_cases c28 : (ji26) < (a0.size : Int)
            ·
             rw [if_pos c28] at H
             have c28b0 : decide ((ji26) < (a0.size : Int)) = true := decide_eq_true c28
             clear c28
             by_cases c30 : (bt a0 (ji26)) = 10
             ·
              rw [if_pos c30] at H
              have c30b0 : ((bt a0 (ji26)) == 10) = true := beq_iff_eq.mpr c30
              have c30b1 : ((bt a0 (ji26)) != 10) = false := bne_eq_false_iff_eq.mpr c30
              clear c30
              replace H := Option.bind_eq_some_iff.mp H
              obtain ⟨t198, A320, H⟩ := H
              replace H : (if t198 = true then (some false) else (emendationref08_Clean.l0 k1 a0 (wrap64 (x3_1 + 1)))) = some r := H
              have A32 := Aside0.mk A320
              clear A320
              by_cases c33 : t198 = true
              ·
               subst c33
               have H1 : (some false) = some r := by rw [if_pos rfl] at H; exact H
               clear H
               have H := H1
               clear H1
               obtain rfl := Option.some.inj H
               have p6 : 0 ≤ (x3_1 : Int) := of_decide_eq_true (by first | (with_reducible assumption) | assumption)
               have q6 : x3_1 < (a0.size : Int) := of_decide_eq_true (by first | (with_reducible assumption) | assumption)
               have hx6 := bt_at a0 x3_1
               replace p6 := eq_true p6
               replace q6 := eq_true q6
               have p9 : 0 ≤ (x3_1 : Int) := of_decide_eq_true (by first | (with_reducible assumption) | assumption)
               have q9 : x3_1 < (a0.size : Int) := of_decide_eq_true (by first | (with_reducible assumption) | assumption)
               have hx9 := bt_at a0 x3_1
               replace p9 := eq_true p9
               replace q9 := eq_true q9
               have tkA10 : True := trivial
               go_wp2_with (first | (go_at_call 50; clear tkA10; (with_reducible refine (emendationref08_gap.calls (bt a0 x3_1) false _ A10.out).mono ?_); rintro e w' ⟨rfl, ⟨nd, rfl⟩⟩; have p13 : 0 ≤ (x3_1 : Int) := of_decide_eq_true (by first | (with_reducible assumption) | assumption); have q13 : x3_1 < (a0.size : Int) := of_decide_eq_true (by first | (with_reducible assumption) | assumption); have hx13 := bt_at a0 x3_1; replace p13 := eq_true p13; replace q13 := eq_true q13; have p29 : 0 ≤ ((ji26) : Int) := of_decide_eq_true (by first | (with_reducible assumption) | assumption); have q29 : (ji26) < (a0.size : Int) := of_decide_eq_true (by first | (with_reducible assumption) | assumption); have hx29 := bt_at a0 (ji26); replace p29 := eq_true p29; replace q29 := eq_true q29; have p31 : 0 ≤ (x3_1 : Int) := of_decide_eq_true (by first | (with_reducible assumption) | assumption); have q31 : x3_1 < (a0.size : Int) := of_decide_eq_true (by first | (with_reducible assumption) | assumption); have hx31 := bt_at a0 x3_1; replace p31 := eq_true p31; replace q31 := eq_true q31; have tkA32 : True := trivial) | (go_at_call 50; clear tkA32; (with_reducible refine (emendationref08_gap.calls (bt a0 x3_1) true _ A32.out).mono ?_); rintro e w' ⟨rfl, ⟨nd, rfl⟩⟩))
               go_ret
               exact ⟨by first | rfl | (simp; done) | (simp only [← hji26] <;> (first | rfl | simp)) | (simp [*]; done), by repeat (first | exact Drawn0.refl _ | apply Drawn0.step)⟩
              ·
               replace c33 := Bool.eq_false_iff.mpr c33
               subst c33
               have H1 : (emendationref08_Clean.l0 k1 a0 (wrap64 (x3_1 + 1))) = some r := by rw [if_neg (show ¬ (false = true) by decide)] at H; exact H
               clear H
               have H := H1
               clear H1
               have H' := Aside0.mk H
               clear H
               have p6 : 0 ≤ (x3_1 : Int) := of_decide_eq_true (by first | (with_reducible assumption) | assumption)
               have q6 : x3_1 < (a0.size : Int) := of_decide_eq_true (by first | (with_reducible assumption) | assumption)
               have hx6 := bt_at a0 x3_1
               replace p6 := eq_true p6
               replace q6 := eq_true q6
               have p9 : 0 ≤ (x3_1 : Int) := of_decide_eq_true (by first | (with_reducible assumption) | assumption)
               have q9 : x3_1 < (a0.size : Int) := of_decide_eq_true (by first | (with_reducible assumption) | assumption)
               have hx9 := bt_at a0 x3_1
               replace p9 := eq_true p9
               replace q9 := eq_true q9
               have tkA10 : True := trivial
               go_wp2_with (first | (go_at_call 50; clear tkA10; (with_reducible refine (emendationref08_gap.calls (bt a0 x3_1) false _ A10.out).mono ?_); rintro e w' ⟨rfl, ⟨nd, rfl⟩⟩; have p13 : 0 ≤ (x3_1 : Int) := of_decide_eq_true (by first | (with_reducible assumption) | assumption); have q13 : x3_1 < (a0.size : Int) := of_decide_eq_true (by first | (with_reducible assumption) | assumption); have hx13 := bt_at a0 x3_1; replace p13 := eq_true p13; replace q13 := eq_true q13; have p29 : 0 ≤ ((ji26) : Int) := of_decide_eq_true (by first | (with_reducible assumption) | assumption); have q29 : (ji26) < (a0.size : Int) := of_decide_eq_true (by first | (with_reducible assumption) | assumption); have hx29 := bt_at a0 (ji26); replace p29 := eq_true p29; replace q29 := eq_true q29; have p31 : 0 ≤ (x3_1 : Int) := of_decide_eq_true (by first | (with_reducible assumption) | assumption); have q31 : x3_1 < (a0.size : Int) := of_decide_eq_true (by first | (with_reducible assumption) | assumption); have hx31 := bt_at a0 x3_1; replace p31 := eq_true p31; replace q31 := eq_true q31; have tkA32 : True := trivial) | (go_at_call 50; clear tkA32; (with_reducible refine (emendationref08_gap.calls (bt a0 x3_1) false _ A32.out).mono ?_); rintro e w' ⟨rfl, ⟨nd, rfl⟩⟩))
               go_roundg k1
               case measure => have := HK1.out; omega
               case rel => exact ⟨(wrap64 (x3_1 + 1)), (by first | rfl | (simp; done) | (simp [*]; done) | (simp [bne, beq_nil_E]; done)), H', ⟨by have := HK1.out; omega⟩, by repeat (first | exact Drawn0.refl _ | apply Drawn0.step)⟩
             ·
              rw [if_neg c30] at H
              have c30b0 : ((bt a0 (ji26)) == 10) = false := beq_eq_false_iff_ne.mpr c30
              have c30b1 : ((bt a0 (ji26)) != 10) = true := bne_iff_ne.mpr c30
              have H' := Aside0.mk H
              clear H
              have p6 : 0 ≤ (x3_1 : Int) := of_decide_eq_true (by first | (with_reducible assumption) | assumption)
              have q6 : x3_1 < (a0.size : Int) := of_decide_eq_true (by first | (with_reducible assumption) | assumption)
              have hx6 := bt_at a0 x3_1
              replace p6 := eq_true p6
              replace q6 := eq_true q6
              have p9 : 0 ≤ (x3_1 : Int) := of_decide_eq_true (by first | (with_reducible assumption) | assumption)
              have q9 : x3_1 < (a0.size : Int) := of_decide_eq_true (by first | (with_reducible assumption) | assumption)
              have hx9 := bt_at a0 x3_1
              replace p9 := eq_true p9
              replace q9 := eq_true q9
              have tkA10 : True := trivial
              go_wp2_with (first | (go_at_call 50; clear tkA10; (with_reducible refine (emendationref08_gap.calls (bt a0 x3_1) false _ A10.out).mono ?_); rintro e w' ⟨rfl, ⟨nd, rfl⟩⟩; have p13 : 0 ≤ (x3_1 : Int) := of_decide_eq_true (by first | (with_reducible assumption) | assumption); have q13 : x3_1 < (a0.size : Int) := of_decide_eq_true (by first | (with_reducible assumption) | assumption); have hx13 := bt_at a0 x3_1; replace p13 := eq_true p13; replace q13 := eq_true q13; have p29 : 0 ≤ ((ji26) : Int) := of_decide_eq_true (by first | (with_reducible assumption) | assumption); have q29 : (ji26) < (a0.size : Int) := of_decide_eq_true (by first | (with_reducible assumption) | assumption); have hx29 := bt_at a0 (ji26); replace p29 := eq_true p29; replace q29 := eq_true q29))
              go_roundg k1
              case measure => have := HK1.out; omega
              case rel => exact ⟨(wrap64 (x3_1 + 1)), (by first | rfl | (simp; done) | (simp [*]; done) | (simp [bne, beq_nil_E]; done)), H', ⟨by have := HK1.out; omega⟩, by repeat (first | exact Drawn0.refl _ | apply Drawn0.step)⟩
            ·
             rw [if_neg c28] at H
             exact absurd H (by simp)
           ·
            rw [if_neg c27] at H
            exact absurd H (by simp)
         ·
          rw [if_neg c12] at H
          have c12b0 : decide (0 < x3_1) = false := decide_eq_false c12
          clear c12
          have H' := Aside0.mk H
          clear H
          have p6 : 0 ≤ (x3_1 : Int) := of_decide_eq_true (by first | (with_reducible assumption) | assumption)
          have q6 : x3_1 < (a0.size : Int) := of_decide_eq_true (by first | (with_reducible assumption) | assumption)
          have hx6 := bt_at a0 x3_1
          replace p6 := eq_true p6
          replace q6 := eq_true q6
          have p9 : 0 ≤ (x3_1 : Int) := of_decide_eq_true (by first | (with_reducible assumption) | assumption)
          have q9 : x3_1 < (a0.size : Int) := of_decide_eq_true (by first | (with_reducible assumption) | assumption)
          have hx9 := bt_at a0 x3_1
          replace p9 := eq_true p9
          replace q9 := eq_true q9
          have tkA10 : True := trivial
          go_wp2_with (first | (go_at_call 50; clear tkA10; (with_reducible refine (emendationref08_gap.calls (bt a0 x3_1) false _ A10.out).mono ?_); rintro e w' ⟨rfl, ⟨nd, rfl⟩⟩))
          go_roundg k1
          case measure => have := HK1.out; omega
          case rel => exact ⟨(wrap64 (x3_1 + 1)), (by first | rfl | (simp; done) | (simp [*]; done) | (simp [bne, beq_nil_E]; done)), H', ⟨by have := HK1.out; omega⟩, by repeat (first | exact Drawn0.refl _ | apply Drawn0.step)⟩
       ·
        rw [if_neg c8] at H
        have c8b0 : (x3_1 == 0) = false := beq_eq_false_iff_ne.mpr c8
        have c8b1 : (x3_1 != 0) = true := bne_iff_ne.mpr c8
        by_cases c34 : x3_1 = (wrap64 ((a0.size : Int) - 1))
        ·
         rw [if_pos c34] at H
         have c34b0 : (x3_1 == (wrap64 ((a0.size : Int) - 1))) = true := beq_iff_eq.mpr c34
         have c34b1 : (x3_1 != (wrap64 ((a0.size : Int) - 1))) = false := bne_eq_false_iff_eq.mpr c34
         clear c34
         replace H := Option.bind_eq_some_iff.mp H
         obtain ⟨t199, A360, H⟩ := H
         replace H : (if t199 = true then (some false) else (if x3_1 > 0 then (if (bt a0 x3_1) = 10 then (if 0 ≤ (wrap64 (x3_1 - 1)) then (if (wrap64 (x3_1 - 1)) < (a0.size : Int) then ((emendationref08_gap.f (bt a0 (wrap64 (x3_1 - 1)))).bind fun t200 => (if t200 = true then (some false) else (if (bt a0 (wrap64 (x3_1 - 1))) = 10 then ((emendationref08_gap.f (bt a0 x3_1)).bind fun t201 => (if t201 = true then (some false) else (emendationref08_Clean.l0 k1 a0 (wrap64 (x3_1 + 1))))) else (emendationref08_Clean.l0 k1 a0 (wrap64 (x3_1 + 1)))))) else (none)) else (none)) else (if 0 ≤ (wrap64 (x3_1 - 1)) then (if (wrap64 (x3_1 - 1)) < (a0.size : Int) then (if (bt a0 (wrap64 (x3_1 - 1))) = 10 then ((emendationref08_gap.f (bt a0 x3_1)).bind fun t202 => (if t202 = true then (some false) else (emendationref08_Clean.l0 k1 a0 (wrap64 (x3_1 + 1))))) else (emendationref08_Clean.l0 k1 a0 (wrap64 (x3_1 + 1)))) else (none)) else (none))) else (emendationref08_Clean.l0 k1 a0 (wrap64 (x3_1 + 1))))) = some r := H
         have A36 := Aside0.mk A360
         clear A360
         by_cases c37 : t199 = true
         ·
          subst c37
          have H1 : (some false) = some r := by rw [if_pos rfl] at H; exact H
          clear H
          have H := H1
          clear H1
          obtain rfl := Option.some.inj H
          have p6 : 0 ≤ (x3_1 : Int) := of_decide_eq_true (by first | (with_reducible assumption) | assumption)
          have q6 : x3_1 < (a0.size : Int) := of_decide_eq_true (by first | (with_reducible assumption) | assumption)
          have hx6 := bt_at a0 x3_1
          replace p6 := eq_true p6
          replace q6 := eq_true q6
          have p35 : 0 ≤ (x3_1 : Int) := of_decide_eq_true (by first | (with_reducible assumption) | assumption)
          have q35 : x3_1 < (a0.size : Int) := of_decide_eq_true (by first | (with_reducible assumption) | assumption)
          have hx35 := bt_at a0 x3_1
          replace p35 := eq_true p35
          replace q35 := eq_true q35
          have tkA36 : True := trivial
          go_wp2_with (first | (go_at_call 50; clear tkA36; (with_reducible refine (emendationref08_gap.calls (bt a0 x3_1) true _ A36.out).mono ?_); rintro e w' ⟨rfl, ⟨nd, rfl⟩⟩))
          go_ret
          exact ⟨by first | rfl | (simp; done) | (simp [*]; done) | (simp [bne, beq_nil_E]; done), by repeat (first | exact Drawn0.refl _ | apply Drawn0.step)⟩
         ·
          replace c37 := Bool.eq_false_iff.mpr c37
          subst c37
          have H1 : (if x3_1 > 0 then (if (bt a0 x3_1) = 10 then (if 0 ≤ (wrap64 (x3_1 - 1)) then (if (wrap64 (x3_1 - 1)) < (a0.size : Int) then ((emendationref08_gap.f (bt a0 (wrap64 (x3_1 - 1)))).bind fun t200 => (if t200 = true then (some false) else (if (bt a0 (wrap64 (x3_1 - 1))) = 10 then ((emendationref08_gap.f (bt a0 x3_1)).bind fun t201 => (if t201 = true then (some false) else (emendationref08_Clean.l0 k1 a0 (wrap64 (x3_1 + 1))))) else (emendationref08_Clean.l0 k1 a0 (wrap64 (x3_1 + 1)))))) else (none)) else (none)) else (if 0 ≤ (wrap64 (x3_1 - 1)) then (if (wrap64 (x3_1 - 1)) < (a0.size : Int) then (if (bt a0 (wrap64 (x3_1 - 1))) = 10 then ((emendationref08_gap.f (bt a0 x3_1)).bind fun t202 => (if t202 = true then (some false) else (emendationref08_Clean.l0 k1 a0 (wrap64 (x3_1 + 1))))) else (emendationref08_Clean.l0 k1 a0 (wrap64 (x3_1 + 1)))) else (none)) else (none))) else (emendationref08_Clean.l0 k1 a0 (wrap64 (x3_1 + 1)))) = some r := by rw [if_neg (show ¬ (false = true) by decide)] at H; exact H
          clear H
          have H := H1
          clear H1
          by_cases c38 : x3_1 > 0
          ·
           rw [if_pos c38] at H
           have c38b0 : decide (0 < x3_1) = true := decide_eq_true c38
           clear c38
           by_cases c40 : (bt a0 x3_1) = 10
           ·
            rw [if_pos c40] at H
            have c40b0 : ((bt a0 x3_1) == 10) = true := beq_iff_eq.mpr c40
            have c40b1 : ((bt a0 x3_1) != 10) = false := bne_eq_false_iff_eq.mpr c40
            clear c40
            obtain ⟨ji41, hji41⟩ : ∃ j_ : Int, (wrap64 (x3_1 - 1)) = j_ := ⟨_, rfl⟩
            replace H : (if 0 ≤ (ji41) then (if (ji41) < (a0.size : Int) then ((emendationref08_gap.f (bt a0 (ji41))).bind fun t200 => (if t200 = true then (some false) else (if (bt a0 (ji41)) = 10 then ((emendationref08_gap.f (bt a0 x3_1)).bind fun t201 => (if t201 = true then (some false) else (emendationref08_Clean.l0 k1 a0 (wrap64 (x3_1 + 1))))) else (emendationref08_Clean.l0 k1 a0 (wrap64 (x3_1 + 1)))))) else (none)) else (none)) = some r := by first | (rw [hji41] at H; exact H) | (simp only [hji41] at H ⊢; exact H)
            (try rw [hji41] at A36)
            have hji41w : (IntKind.i64.wrap (x3_1 - 1)) = ji41 := (i64_w _).trans hji41
            by_cases c42 : 0 ≤ (ji41)
            ·
             rw [if_pos c42] at H
             have c42b0 : decide (0 ≤ (ji41)) = true := decide_eq_true c42
             clear c42
             by_cases c43 : (ji41) < (a0.size : Int)
             ·
              rw [if_pos c43] at H
              have c43b0 : decide ((ji41) < (a0.size : Int)) = true := decide_eq_true c43
              clear c43
              replace H := Option.bind_eq_some_iff.mp H
              obtain ⟨t200, A450, H⟩ := H
              replace H : (if t200 = true then (some false) else (if (bt a0 (ji41)) = 10 then ((emendationref08_gap.f (bt a0 x3_1)).bind fun t201 => (if t201 = true then (some false) else (emendationref08_Clean.l0 k1 a0 (wrap64 (x3_1 + 1))))) else (emendationref08_Clean.l0 k1 a0 (wrap64 (x3_1 + 1))))) = some r := H
              have A45 := Aside0.mk A450
              clear A450
              by_cases c46 : t200 = true
              ·
               subst c46
               have H1 : (some false) = some r := by rw [if_pos rfl] at H; exact H
               clear H
               have H := H1
               clear H1
               obtain rfl := Option.some.inj H
               have p6 : 0 ≤ (x3_1 : Int) := of_decide_eq_true (by first | (with_reducible assumption) | assumption)
               have q6 : x3_1 < (a0.size : Int) := of_decide_eq_true (by first | (with_reducible assumption) | assumption)
               have hx6 := bt_at a0 x3_1
               replace p6 := eq_true p6
               replace q6 := eq_true q6
               have p35 : 0 ≤ (x3_1 : Int) := of_decide_eq_true (by first | (with_reducible assumption) | assumption)
               have q35 : x3_1 < (a0.size : Int) := of_decide_eq_true (by first | (with_reducible assumption) | assumption)
               have hx35 := bt_at a0 x3_1
               replace p35 := eq_true p35
               replace q35 := eq_true q35
               have tkA36 : True := trivial
               go_wp2_with (first | (go_at_call 50; clear tkA36; (with_reducible refine (emendationref08_gap.calls (bt a0 x3_1) false _ A36.out).mono ?_); rintro e w' ⟨rfl, ⟨nd, rfl⟩⟩; have p39 : 0 ≤ (x3_1 : Int) := of_decide_eq_true (by first | (with_reducible assumption) | assumption); have q39 : x3_1 < (a0.size : Int) := of_decide_eq_true (by first | (with_reducible assumption) | assumption); have hx39 := bt_at a0 x3_1; replace p39 := eq_true p39; replace q39 := eq_true q39; have p44 : 0 ≤ ((ji41) : Int) := of_decide_eq_true (by first | (with_reducible assumption) | assumption); have q44 : (ji41) < (a0.size : Int) := of_decide_eq_true (by first | (with_reducible assumption) | assumption); have hx44 := bt_at a0 (ji41); replace p44 := eq_true p44; replace q44 := eq_true q44; have tkA45 : True := trivial) | (go_at_call 50; clear tkA45; (with_reducible refine (emendationref08_gap.calls (bt a0 (ji41)) true _ A45.out).mono ?_); rintro e w' ⟨rfl, ⟨nd, rfl⟩⟩))
               go_ret
               exact ⟨by first | rfl | (simp; done) | (simp only [← hji41] <;> (first | rfl | simp)) | (simp [*]; done), by repeat (first | exact Drawn0.refl _ | apply Drawn0.step)⟩
              ·
               replace c46 := Bool.eq_false_iff.mpr c46
               subst c46
               have H1 : (if (bt a0 (ji41)) = 10 then ((emendationref08_gap.f (bt a0 x3_1)).bind fun t201 => (if t201 = true then (some false) else (emendationref08_Clean.l0 k1 a0 (wrap64 (x3_1 + 1))))) else (emendationref08_Clean.l0 k1 a0 (wrap64 (x3_1 + 1)))) = some r := by rw [if_neg (show ¬ (false = true) by decide)] at H; exact H
               clear H
               have H := H1
               clear H1
               by_cases c48 : (bt a0 (ji41)) = 10
               ·
                rw [if_pos c48] at H
                have c48b0 : ((bt a0 (ji41)) == 10) = true := beq_iff_eq.mpr c48
                have c48b1 : ((bt a0 (ji41)) != 10) = false := bne_eq_false_iff_eq.mpr c48
                clear c48
                replace H := Option.bind_eq_some_iff.mp H
                obtain ⟨t201, A500, H⟩ := H
                replace H : (if t201 = true then (some false) else (emendationref08_Clean.l0 k1 a0 (wrap64 (x3_1 + 1)))) = some r := H
                have A50 := Aside0.mk A500
                clear A500
                by_cases c51 : t201 = true
                ·
                 subst c51
                 have H1 : (some false) = some r := by rw [if_pos rfl] at H; exact H
                 clear H
                 have H := H1
                 clear H1
                 obtain rfl := Option.some.inj H
                 have p6 : 0 ≤ (x3_1 : Int) := of_decide_eq_true (by first | (with_reducible assumption) | assumption)
                 have q6 : x3_1 < (a0.size : Int) := of_decide_eq_true (by first | (with_reducible assumption) | assumption)
                 have hx6 := bt_at a0 x3_1
                 replace p6 := eq_true p6
                 replace q6 := eq_true q6
                 have p35 : 0 ≤ (x3_1 : Int) := of_decide_eq_true (by first | (with_reducible assumption) | assumption)
                 have q35 : x3_1 < (a0.size : Int) := of_decide_eq_true (by first | (with_reducible assumption) | assumption)
                 have hx35 := bt_at a0 x3_1
                 replace p35 := eq_true p35
                 replace q35 := eq_true q35
                 have tkA36 : True := trivial
                 go_wp2_with (first | (go_at_call 50; clear tkA36; (with_reducible refine (emendationref08_gap.calls (bt a0 x3_1) false _ A36.out).mono ?_); rintro e w' ⟨rfl, ⟨nd, rfl⟩⟩; have p39 : 0 ≤ (x3_1 : Int) := of_decide_eq_true (by first | (with_reducible assumption) | assumption); have q39 : x3_1 < (a0.size : Int) := of_decide_eq_true (by first | (with_reducible assumption) | assumption); have hx39 := bt_at a0 x3_1; replace p39 := eq_true p39; replace q39 := eq_true q39; have p44 : 0 ≤ ((ji41) : Int) := of_decide_eq_true (by first | (with_reducible assumption) | assumption); have q44 : (ji41) < (a0.size : Int) := of_decide_eq_true (by first | (with_reducible assumption) | assumption); have hx44 := bt_at a0 (ji41); replace p44 := eq_true p44; replace q44 := eq_true q44; have tkA45 : True := trivial) | (go_at_call 50; clear tkA45; (with_reducible refine (emendationref08_gap.calls (bt a0 (ji41)) false _ A45.out).mono ?_); rintro e w' ⟨rfl, ⟨nd, rfl⟩⟩; have p47 : 0 ≤ ((ji41) : Int) := of_decide_eq_true (by first | (with_reducible assumption) | assumption); have q47 : (ji41) < (a0.size : Int) := of_decide_eq_true (by first | (with_reducible assumption) | assumption); have hx47 := bt_at a0 (ji41); replace p47 := eq_true p47; replace q47 := eq_true q47; have p49 : 0 ≤ (x3_1 : Int) := of_decide_eq_true (by first | (with_reducible assumption) | assumption); have q49 : x3_1 < (a0.size : Int) := of_decide_eq_true (by first | (with_reducible assumption) | assumption); have hx49 := bt_at a0 x3_1; replace p49 := eq_true p49; replace q49 := eq_true q49; have tkA50 : True := trivial) | (go_at_call 50; clear tkA50; (with_reducible refine (emendationref08_gap.calls (bt a0 x3_1) true _ A50.out).mono ?_); rintro e w' ⟨rfl, ⟨nd, rfl⟩⟩))
                 go_ret
                 exact ⟨by first | rfl | (simp; done) | (simp only [← hji41] <;> (first | rfl | simp)) | (simp [*]; done), by repeat (first | exact Drawn0.refl _ | apply Drawn0.step)⟩
                ·
                 replace c51 := Bool.eq_false_iff.mpr c51
                 subst c51
                 have H1 : (emendationref08_Clean.l0 k1 a0 (wrap64 (x3_1 + 1))) = some r := by rw [if_neg (show ¬ (false = true) by decide)] at H; exact H
                 clear H
                 have H := H1
                 clear H1
                 have H' := Aside0.mk H
                 clear H
                 have p6 : 0 ≤ (x3_1 : Int) := of_decide_eq_true (by first | (with_reducible assumption) | assumption)
                 have q6 : x3_1 < (a0.size : Int) := of_decide_eq_true (by first | (with_reducible assumption) | assumption)
                 have hx6 := bt_at a0 x3_1
                 replace p6 := eq_true p6
                 replace q6 := eq_true q6
                 have p35 : 0 ≤ (x3_1 : Int) := of_decide_eq_true (by first | (with_reducible assumption) | assumption)
                 have q35 : x3_1 < (a0.size : Int) := of_decide_eq_true (by first | (with_reducible assumption) | assumption)
                 have hx35 := bt_at a0 x3_1
                 replace p35 := eq_true p35
                 replace q35 := eq_true q35
                 have tkA36 : True := trivial
                 go_wp2_with (first | (go_at_call 50; clear tkA36; (with_reducible refine (emendationref08_gap.calls (bt a0 x3_1) false _ A36.out).mono ?_); rintro e w' ⟨rfl, ⟨nd, rfl⟩⟩; have p39 : 0 ≤ (x3_1 : Int) := of_decide_eq_true (by first | (with_reducible assumption) | assumption); have q39 : x3_1 < (a0.size : Int) := of_decide_eq_true (by first | (with_reducible assumption) | assumption); have hx39 := bt_at a0 x3_1; replace p39 := eq_true p39; replace q39 := eq_true q39; have p44 : 0 ≤ ((ji41) : Int) := of_decide_eq_true (by first | (with_reducible assumption) | assumption); have q44 : (ji41) < (a0.size : Int) := of_decide_eq_true (by first | (with_reducible assumption) | assumption); have hx44 := bt_at a0 (ji41); replace p44 := eq_true p44; replace q44 := eq_true q44; have tkA45 : True := trivial) | (go_at_call 50; clear tkA45; (with_reducible refine (emendationref08_gap.calls (bt a0 (ji41)) false _ A45.out).mono ?_); rintro e w' ⟨rfl, ⟨nd, rfl⟩⟩; have p47 : 0 ≤ ((ji41) : Int) := of_decide_eq_true (by first | (with_reducible assumption) | assumption); have q47 : (ji41) < (a0.size : Int) := of_decide_eq_true (by first | (with_reducible assumption) | assumption); have hx47 := bt_at a0 (ji41); replace p47 := eq_true p47; replace q47 := eq_true q47; have p49 : 0 ≤ (x3_1 : Int) := of_decide_eq_true (by first | (with_reducible assumption) | assumption); have q49 : x3_1 < (a0.size : Int) := of_decide_eq_true (by first | (with_reducible assumption) | assumption); have hx49 := bt_at a0 x3_1; replace p49 := eq_true p49; replace q49 := eq_true q49; have tkA50 : True := trivial) | (go_at_call 50; clear tkA50; (with_reducible refine (emendationref08_gap.calls (bt a0 x3_1) false _ A50.out).mono ?_); rintro e w' ⟨rfl, ⟨nd, rfl⟩⟩))
                 go_roundg k1
                 case measure => have := HK1.out; omega
                 case rel => exact ⟨(wrap64 (x3_1 + 1)), (by first | rfl | (simp; done) | (simp [*]; done) | (simp [bne, beq_nil_E]; done)), H', ⟨by have := HK1.out; omega⟩, by repeat (first | exact Drawn0.refl _ | apply Drawn0.step)⟩
               ·
                rw [if_neg c48] at H
                have c48b0 : ((bt a0 (ji41)) == 10) = false := beq_eq_false_iff_ne.mpr c48
                have c48b1 : ((bt a0 (ji41)) != 10) = true := bne_iff_ne.mpr c48
                have H' := Aside0.mk H
                clear H
                have p6 : 0 ≤ (x3_1 : Int) := of_decide_eq_true (by first | (with_reducible assumption) | assumption)
                have q6 : x3_1 < (a0.size : Int) := of_decide_eq_true (by first | (with_reducible assumption) | assumption)
                have hx6 := bt_at a0 x3_1
                replace p6 := eq_true p6
                replace q6 := eq_true q6
                have p35 : 0 ≤ (x3_1 : Int) := of_decide_eq_true (by first | (with_reducible assumption) | assumption)
                have q35 : x3_1 < (a0.size : Int) := of_decide_eq_true (by first | (with_reducible assumption) | assumption)
                have hx35 := bt_at a0 x3_1
                replace p35 := eq_true p35
                replace q35 := eq_true q35
                have tkA36 : True := trivial
                go_wp2_with (first | (go_at_call 50; clear tkA36; (with_reducible refine (emendationref08_gap.calls (bt a0 x3_1) false _ A36.out).mono ?_); rintro e w' ⟨rfl, ⟨nd, rfl⟩⟩; have p39 : 0 ≤ (x3_1 : Int) := of_decide_eq_true (by first | (with_reducible assumption) | assumption); have q39 : x3_1 < (a0.size : Int) := of_decide_eq_true (by first | (with_reducible assumption) | assumption); have hx39 := bt_at a0 x3_1; replace p39 := eq_true p39; replace q39 := eq_true q39; have p44 : 0 ≤ ((ji41) : Int) := of_decide_eq_true (by first | (with_reducible assumption) | assumption); have q44 : (ji41) < (a0.size : Int) := of_decide_eq_true (by first | (with_reducible assumption) | assumption); have hx44 := bt_at a0 (ji41); replace p44 := eq_true p44; replace q44 := eq_true q44; have tkA45 : True := trivial) | (go_at_call 50; clear tkA45; (with_reducible refine (emendationref08_gap.calls (bt a0 (ji41)) false _ A45.out).mono ?_); rintro e w' ⟨rfl, ⟨nd, rfl⟩⟩; have p47 : 0 ≤ ((ji41) : Int) := of_decide_eq_true (by first | (with_reducible assumption) | assumption); have q47 : (ji41) < (a0.size : Int) := of_decide_eq_true (by first | (with_reducible assumption) | assumption); have hx47 := bt_at a0 (ji41); replace p47 := eq_true p47; replace q47 := eq_true q47))
                go_roundg k1
                case measure => have := HK1.out; omega
                case rel => exact ⟨(wrap64 (x3_1 + 1)), (by first | rfl | (simp; done) | (simp [*]; done) | (simp [bne, beq_nil_E]; done)), H', ⟨by have := HK1.out; omega⟩, by repeat (first | exact Drawn0.refl _ | apply Drawn0.step)⟩
             ·
              rw [if_neg c43] at H
              exact absurd H (by simp)
            ·
             rw [if_neg c42] at H
             exact absurd H (by simp)
           ·
            rw [if_neg c40] at H
            have c40b0 : ((bt a0 x3_1) == 10) = false := beq_eq_false_iff_ne.mpr c40
            have c40b1 : ((bt a0 x3_1) != 10) = true := bne_iff_ne.mpr c40
            obtain ⟨ji52, hji52⟩ : ∃ j_ : Int, (wrap64 (x3_1 - 1)) = j_ := ⟨_, rfl⟩
            replace H : (if 0 ≤ (ji52) then (if (ji52) < (a0.size : Int) then (if (bt a0 (ji52)) = 10 then ((emendationref08_gap.f (bt a0 x3_1)).bind fun t202 => (if t202 = true then (some false) else (emendationref08_Clean.l0 k1 a0 (wrap64 (x3_1 + 1))))) else (emendationref08_Clean.l0 k1 a0 (wrap64 (x3_1 + 1)))) else (none)) else (none)) = some r := by first | (rw [hji52] at H; exact H) | (simp only [hji52] at H ⊢; exact H)
            (try rw [hji52] at A36)
            have hji52w : (IntKind.i64.wrap (x3_1 - 1)) = ji52 := (i64_w _).trans hji52
            by_cases c53 : 0 ≤ (ji52)
            ·
             rw [if_pos c53] at H
             have c53b0 : decide (0 ≤ (ji52)) = true := decide_eq_true c53
             clear c53
             by_cases c54 : (ji52) < (a0.size : Int)
             ·
              rw [if_pos c54] at H
              have c54b0 : decide ((ji52) < (a0.size : Int)) = true := decide_eq_true c54
              clear c54
              by_cases c56 : (bt a0 (ji52)) = 10
              ·
               rw [if_pos c56] at H
               have c56b0 : ((bt a0 (ji52)) == 10) = true := beq_iff_eq.mpr c56
               have c56b1 : ((bt a0 (ji52)) != 10) = false := bne_eq_false_iff_eq.mpr c56
               clear c56
               replace H := Option.bind_eq_some_iff.mp H
               obtain ⟨t202, A580, H⟩ := H
               replace H : (if t202 = true then (some false) else (emendationref08_Clean.l0 k1 a0 (wrap64 (x3_1 + 1)))) = some r := H
               have A58 := Aside0.mk A580
               clear A580
               by_cases c59 : t202 = true
               ·
                subst c59
                have H1 : (some false) = some r := by rw [if_pos rfl] at H; exact H
                clear H
                have H := H1
                clear H1
                obtain rfl := Option.some.inj H
                have p6 : 0 ≤ (x3_1 : Int) := of_decide_eq_true (by first | (with_reducible assumption) | assumption)
                have q6 : x3_1 < (a0.size : Int) := of_decide_eq_true (by first | (with_reducible assumption) | assumption)
                have hx6 := bt_at a0 x3_1
                replace p6 := eq_true p6
                replace q6 := eq_true q6
                have p35 : 0 ≤ (x3_1 : Int) := of_decide_eq_true (by first | (with_reducible assumption) | assumption)
                have q35 : x3_1 < (a0.size : Int) := of_decide_eq_true (by first | (with_reducible assumption) | assumption)
                have hx35 := bt_at a0 x3_1
                replace p35 := eq_true p35
                replace q35 := eq_true q35
                have tkA36 : True := trivial
                go_wp2_with (first | (go_at_call 50; clear tkA36; (with_reducible refine (emendationref08_gap.calls (bt a0 x3_1) false _ A36.out).mono ?_); rintro e w' ⟨rfl, ⟨nd, rfl⟩⟩; have p39 : 0 ≤ (x3_1 : Int) := of_decide_eq_true (by first | (with_reducible assumption) | assumption); have q39 : x3_1 < (a0.size : Int) := of_decide_eq_true (by first | (with_reducible assumption) | assumption); have hx39 := bt_at a0 x3_1; replace p39 := eq_true p39; replace q39 := eq_true q39; have p55 : 0 ≤ ((ji52) : Int) := of_decide_eq_true (by first | (with_reducible assumption) | assumption); have q55 : (ji52) < (a0.size : Int) := of_decide_eq_true (by first | (with_reducible assumption) | assumption); have hx55 := bt_at a0 (ji52); replace p55 := eq_true p55; replace q55 := eq_true q55; have p57 : 0 ≤ (x3_1 : Int) := of_decide_eq_true (by first | (with_reducible assumption) | assumption); have q57 : x3_1 < (a0.size : Int) := of_decide_eq_true (by first | (with_reducible assumption) | assumption); have hx57 := bt_at a0 x3_1; replace p57 := eq_true p57; replace q57 := eq_true q57; have tkA58 : True := trivial) | (go_at_call 50; clear tkA58; (with_reducible refine (emendationref08_gap.calls (bt a0 x3_1) true _ A58.out).mono ?_); rintro e w' ⟨rfl, ⟨nd, rfl⟩⟩))
                go_ret
                exact ⟨by first | rfl | (simp; done) | (simp only [← hji52] <;> (first | rfl | simp)) | (simp [*]; done), by repeat (first | exact Drawn0.refl _ | apply Drawn0.step)⟩
               ·
                replace c59 := Bool.eq_false_iff.mpr c59
                subst c59
                have H1 : (emendationref08_Clean.l0 k1 a0 (wrap64 (x3_1 + 1))) = some r := by rw [if_neg (show ¬ (false = true) by decide)] at H; exact H
                clear H
                have H := H1
                clear H1
                have H' := Aside0.mk H
                clear H
                have p6 : 0 ≤ (x3_1 : Int) := of_decide_eq_true (by first | (with_reducible assumption) | assumption)
                have q6 : x3_1 < (a0.size : Int) := of_decide_eq_true (by first | (with_reducible assumption) | assumption)
                have hx6 := bt_at a0 x3_1
                replace p6 := eq_true p6
                replace q6 := eq_true q6
                have p35 : 0 ≤ (x3_1 : Int) := of_decide_eq_true (by first | (with_reducible assumption) | assumption)
                have q35 : x3_1 < (a0.size : Int) := of_decide_eq_true (by first | (with_reducible assumption) | assumption)
                have hx35 := bt_at a0 x3_1
                replace p35 := eq_true p35
                replace q35 := eq_true q35
                have tkA36 : True := trivial
                go_wp2_with (first | (go_at_call 50; clear tkA36; (with_reducible refine (emendationref08_gap.calls (bt a0 x3_1) false _ A36.out).mono ?_); rintro e w' ⟨rfl, ⟨nd, rfl⟩⟩; have p39 : 0 ≤ (x3_1 : Int) := of_decide_eq_true (by first | (with_reducible assumption) | assumption); have q39 : x3_1 < (a0.size : Int) := of_decide_eq_true (by first | (with_reducible assumption) | assumption); have hx39 := bt_at a0 x3_1; replace p39 := eq_true p39; replace q39 := eq_true q39; have p55 : 0 ≤ ((ji52) : Int) := of_decide_eq_true (by first | (with_reducible assumption) | assumption); have q55 : (ji52) < (a0.size : Int) := of_decide_eq_true (by first | (with_reducible assumption) | assumption); have hx55 := bt_at a0 (ji52); replace p55 := eq_true p55; replace q55 := eq_true q55; have p57 : 0 ≤ (x3_1 : Int) := of_decide_eq_true (by first | (with_reducible assumption) | assumption); have q57 : x3_1 < (a0.size : Int) := of_decide_eq_true (by first | (with_reducible assumption) | assumption); have hx57 := bt_at a0 x3_1; replace p57 := eq_true p57; replace q57 := eq_true q57; have tkA58 : True := trivial) | (go_at_call 50; clear tkA58; (with_reducible refine (emendationref08_gap.calls (bt a0 x3_1) false _ A58.out).mono ?_); rintro e w' ⟨rfl, ⟨nd, rfl⟩⟩))
                go_roundg k1
                case measure => have := HK1.out; omega
                case rel => exact ⟨(wrap64 (x3_1 + 1)), (by first | rfl | (simp; done) | (simp [*]; done) | (simp [bne, beq_nil_E]; done)), H', ⟨by have := HK1.out; omega⟩, by repeat (first | exact Drawn0.refl _ | apply Drawn0.step)⟩
              ·
               rw [if_neg c56] at H
               have c56b0 : ((bt a0 (ji52)) == 10) = false := beq_eq_false_iff_ne.mpr c56
               have c56b1 : ((bt a0 (ji52)) != 10) = true := bne_iff_ne.mpr c56
               have H' := Aside0.mk H
               clear H
               have p6 : 0 ≤ (x3_1 : Int) := of_decide_eq_true (by first | (with_reducible assumption) | assumption)
               have q6 : x3_1 < (a0.size : Int) := of_decide_eq_true (by first | (with_reducible assumption) | assumption)
               have hx6 := bt_at a0 x3_1
               replace p6 := eq_true p6
               replace q6 := eq_true q6
               have p35 : 0 ≤ (x3_1 : Int) := of_decide_eq_true (by first | (with_reducible assumption) | assumption)
               have q35 : x3_1 < (a0.size : Int) := of_decide_eq_true (by first | (with_reducible assumption) | assumption)
               have hx35 := bt_at a0 x3_1
               replace p35 := eq_true p35
               replace q35 := eq_true q35
               have tkA36 : True := trivial
               go_wp2_with (first | (go_at_call 50; clear tkA36; (with_reducible refine (emendationref08_gap.calls (bt a0 x3_1) false _ A36.out).mono ?_); rintro e w' ⟨rfl, ⟨nd, rfl⟩⟩; have p39 : 0 ≤ (x3_1 : Int) := of_decide_eq_true (by first | (with_reducible assumption) | assumption); have q39 : x3_1 < (a0.size : Int) := of_decide_eq_true (by first | (with_reducible assumption) | assumption); have hx39 := bt_at a0 x3_1; replace p39 := eq_true p39; replace q39 := eq_true q39; have p55 : 0 ≤ ((ji52) : Int) := of_decide_eq_true (by first | (with_reducible assumption) | assumption); have q55 : (ji52) < (a0.size : Int) := of_decide_eq_true (by first | (with_reducible assumption) | assumption); have hx55 := bt_at a0 (ji52); replace p55 := eq_true p55; replace q55 := eq_true q55))
               go_roundg k1
               case measure => have := HK1.out; omega
               case rel => exact ⟨(wrap64 (x3_1 + 1)), (by first | rfl | (simp; done) | (simp [*]; done) | (simp [bne, beq_nil_E]; done)), H', ⟨by have := HK1.out; omega⟩, by repeat (first | exact Drawn0.refl _ | apply Drawn0.step)⟩
             ·
              rw [if_neg c54] at H
              exact absurd H (by simp)
            ·
             rw [if_neg c53] at H
             exact absurd H (by simp)
          ·
           rw [if_neg c38] at H
           have c38b0 : decide (0 < x3_1) = false := decide_eq_false c38
           clear c38
           have H' := Aside0.mk H
           clear H
           have p6 : 0 ≤ (x3_1 : Int) := of_decide_eq_true (by first | (with_reducible assumption) | assumption)
           have q6 : x3_1 < (a0.size : Int) := of_decide_eq_true (by first | (with_reducible assumption) | assumption)
           have hx6 := bt_at a0 x3_1
           replace p6 := eq_true p6
           replace q6 := eq_true q6
           have p35 : 0 ≤ (x3_1 : Int) := of_decide_eq_true (by first | (with_reducible assumption) | assumption)
           have q35 : x3_1 < (a0.size : Int) := of_decide_eq_true (by first | (with_reducible assumption) | assumption)
           have hx35 := bt_at a0 x3_1
           replace p35 := eq_true p35
           replace q35 := eq_true q35
           have tkA36 : True := trivial
           go_wp2_with (first | (go_at_call 50; clear tkA36; (with_reducible refine (emendationref08_gap.calls (bt a0 x3_1) false _ A36.out).mono ?_); rintro e w' ⟨rfl, ⟨nd, rfl⟩⟩))
           go_roundg k1
           case measure => have := HK1.out; omega
           case rel => exact ⟨(wrap64 (x3_1 + 1)), (by first | rfl | (simp; done) | (simp [*]; done) | (simp [bne, beq_nil_E]; done)), H', ⟨by have := HK1.out; omega⟩, by repeat (first | exact Drawn0.refl _ | apply Drawn0.step)⟩
        ·
         rw [if_neg c34] at H
         have c34b0 : (x3_1 == (wrap64 ((a0.size : Int) - 1))) = false := beq_eq_false_iff_ne.mpr c34
         have c34b1 : (x3_1 != (wrap64 ((a0.size : Int) - 1))) = true := bne_iff_ne.mpr c34
         by_cases c60 : x3_1 > 0
         ·
          rw [if_pos c60] at H
          have c60b0 : decide (0 < x3_1) = true := decide_eq_true c60
          clear c60
          by_cases c62 : (bt a0 x3_1) = 10
          ·
           rw [if_pos c62] at H
           have c62b0 : ((bt a0 x3_1) == 10) = true := beq_iff_eq.mpr c62
           have c62b1 : ((bt a0 x3_1) != 10) = false := bne_eq_false_iff_eq.mpr c62
           clear c62
           obtain ⟨ji63, hji63⟩ : ∃ j_ : Int, (wrap64 (x3_1 - 1)) = j_ := ⟨_, rfl⟩
           replace H : (if 0 ≤ (ji63) then (if (ji63) < (a0.size : Int) then ((emendationref08_gap.f (bt a0 (ji63))).bind fun t203 => (if t203 = true then (some false) else (if (bt a0 (ji63)) = 10 then ((emendationref08_gap.f (bt a0 x3_1)).bind fun t204 => (if t204 = true then (some false) else (emendationref08_Clean.l0 k1 a0 (wrap64 (x3_1 + 1))))) else (emendationref08_Clean.l0 k1 a0 (wrap64 (x3_1 + 1)))))) else (none)) else (none)) = some r := by first | (rw [hji63] at H; exact H) | (simp only [hji63] at H ⊢; exact H)
           have hji63w : (IntKind.i64.wrap (x3_1 - 1)) = ji63 := (i64_w _).trans hji63
           by_cases c64 : 0 ≤ (ji63)
           ·
            rw [if_pos c64] at H
            have c64b0 : decide (0 ≤ (ji63)) = true := decide_eq_true c64
            clear c64
            by_cases c65 : (ji63) < (a0.size : Int)
            ·
             rw [if_pos c65] at H
             have c65b0 : decide ((ji63) < (a0.size : Int)) = true := decide_eq_true c65
             clear c65
             replace H := Option.bind_eq_some_iff.mp H
             obtain ⟨t203, A670, H⟩ := H
             replace H : (if t203 = true then (some false) else (if (bt a0 (ji63)) = 10 then ((emendationref08_gap.f (bt a0 x3_1)).bind fun t204 => (if t204 = true then (some false) else (emendationref08_Clean.l0 k1 a0 (wrap64 (x3_1 + 1))))) else (emendationref08_Clean.l0 k1 a0 (wrap64 (x3_1 + 1))))) = some r := H
             have A67 := Aside0.mk A670
             clear A670
             by_cases c68 : t203 = true
             ·
              subst c68
              have H1 : (some false) = some r := by rw [if_pos rfl] at H; exact H
              clear H
              have H := H1
              clear H1
              obtain rfl := Option.some.inj H
              have p6 : 0 ≤ (x3_1 : Int) := of_decide_eq_true (by first | (with_reducible assumption) | assumption)
              have q6 : x3_1 < (a0.size : Int) := of_decide_eq_true (by first | (with_reducible assumption) | assumption)
              have hx6 := bt_at a0 x3_1
              replace p6 := eq_true p6
              replace q6 := eq_true q6
              have p61 : 0 ≤ (x3_1 : Int) := of_decide_eq_true (by first | (with_reducible assumption) | assumption)
              have q61 : x3_1 < (a0.size : Int) := of_decide_eq_true (by first | (with_reducible assumption) | assumption)
              have hx61 := bt_at a0 x3_1
              replace p61 := eq_true p61
              replace q61 := eq_true q61
              have p66 : 0 ≤ ((ji63) : Int) := of_decide_eq_true (by first | (with_reducible assumption) | assumption)
              have q66 : (ji63) < (a0.size : Int) := of_decide_eq_true (by first | (with_reducible assumption) | assumption)
              have hx66 := bt_at a0 (ji63)
              replace p66 := eq_true p66
              replace q66 := eq_true q66
              have tkA67 : True := trivial
              go_wp2_with (first | (go_at_call 50; clear tkA67; (with_reducible refine (emendationref08_gap.calls (bt a0 (ji63)) true _ A67.out).mono ?_); rintro e w' ⟨rfl, ⟨nd, rfl⟩⟩))
              go_ret
              exact ⟨by first | rfl | (simp; done) | (simp only [← hji63] <;> (first | rfl | simp)) | (simp [*]; done), by repeat (first | exact Drawn0.refl _ | apply Drawn0.step)⟩
             ·
              replace c68 := Bool.eq_false_iff.mpr c68
              subst c68
              have H1 : (if (bt a0 (ji63)) = 10 then ((emendationref08_gap.f (bt a0 x3_1)).bind fun t204 => (if t204 = true then (some false) else (emendationref08_Clean.l0 k1 a0 (wrap64 (x3_1 + 1))))) else (emendationref08_Clean.l0 k1 a0 (wrap64 (x3_1 + 1)))) = some r := by rw [if_neg (show ¬ (false = true) by decide)] at H; exact H
              clear H
              have H := H1
              clear H1
              by_cases c70 : (bt a0 (ji63)) = 10
              ·
               rw [if_pos c70] at H
               have c70b0 : ((bt a0 (ji63)) == 10) = true := beq_iff_eq.mpr c70
               have c70b1 : ((bt a0 (ji63)) != 10) = false := bne_eq_false_iff_eq.mpr c70
               clear c70
               replace H := Option.bind_eq_some_iff.mp H
               obtain ⟨t204, A720, H⟩ := H
               replace H : (if t204 = true then (some false) else (emendationref08_Clean.l0 k1 a0 (wrap64 (x3_1 + 1)))) = some r := H
               have A72 := Aside0.mk A720
               clear A720
               by_cases c73 : t204 = true
               ·
                subst c73
                have H1 : (some false) = some r := by rw [if_pos rfl] at H; exact H
                clear H
                have H := H1
                clear H1
                obtain rfl := Option.some.inj H
                have p6 : 0 ≤ (x3_1 : Int) := of_decide_eq_true (by first | (with_reducible assumption) | assumption)
                have q6 : x3_1 < (a0.size : Int) := of_decide_eq_true (by first | (with_reducible assumption) | assumption)
                have hx6 := bt_at a0 x3_1
                replace p6 := eq_true p6
                replace q6 := eq_true q6
                have p61 : 0 ≤ (x3_1 : Int) := of_decide_eq_true (by first | (with_reducible assumption) | assumption)
                have q61 : x3_1 < (a0.size : Int) := of_decide_eq_true (by first | (with_reducible assumption) | assumption)
                have hx61 := bt_at a0 x3_1
                replace p61 := eq_true p61
                replace q61 := eq_true q61
                have p66 : 0 ≤ ((ji63) : Int) := of_decide_eq_true (by first | (with_reducible assumption) | assumption)
                have q66 : (ji63) < (a0.size : Int) := of_decide_eq_true (by first | (with_reducible assumption) | assumption)
                have hx66 := bt_at a0 (ji63)
                replace p66 := eq_true p66
                replace q66 := eq_true q66
                have tkA67 : True := trivial
                go_wp2_with (first | (go_at_call 50; clear tkA67; (with_reducible refine (emendationref08_gap.calls (bt a0 (ji63)) false _ A67.out).mono ?_); rintro e w' ⟨rfl, ⟨nd, rfl⟩⟩; have p69 : 0 ≤ ((ji63) : Int) := of_decide_eq_true (by first | (with_reducible assumption) | assumption); have q69 : (ji63) < (a0.size : Int) := of_decide_eq_true (by first | (with_reducible assumption) | assumption); have hx69 := bt_at a0 (ji63); replace p69 := eq_true p69; replace q69 := eq_true q69; have p71 : 0 ≤ (x3_1 : Int) := of_decide_eq_true (by first | (with_reducible assumption) | assumption); have q71 : x3_1 < (a0.size : Int) := of_decide_eq_true (by first | (with_reducible assumption) | assumption); have hx71 := bt_at a0 x3_1; replace p71 := eq_true p71; replace q71 := eq_true q71; have tkA72 : True := trivial) | (go_at_call 50; clear tkA72; (with_reducible refine (emendationref08_gap.calls (bt a0 x3_1) true _ A72.out).mono ?_); rintro e w' ⟨rfl, ⟨nd, rfl⟩⟩))
                go_ret
                exact ⟨by first | rfl | (simp; done) | (simp only [← hji63] <;> (first | rfl | simp)) | (simp [*]; done), by repeat (first | exact Drawn0.refl _ | apply Drawn0.step)⟩
               ·
                replace c73 := Bool.eq_false_iff.mpr c73
                subst c73
                have H1 : (emendationref08_Clean.l0 k1 a0 (wrap64 (x3_1 + 1))) = some r := by rw [if_neg (show ¬ (false = true) by decide)] at H; exact H
                clear H
                have H := H1
                clear H1
                have H' := Aside0.mk H
                clear H
                have p6 : 0 ≤ (x3_1 : Int) := of_decide_eq_true (by first | (with_reducible assumption) | assumption)
                have q6 : x3_1 < (a0.size : Int) := of_decide_eq_true (by first | (with_reducible assumption) | assumption)
                have hx6 := bt_at a0 x3_1
                replace p6 := eq_true p6
                replace q6 := eq_true q6
                have p61 : 0 ≤ (x3_1 : Int) := of_decide_eq_true (by first | (with_reducible assumption) | assumption)
                have q61 : x3_1 < (a0.size : Int) := of_decide_eq_true (by first | (with_reducible assumption) | assumption)
                have hx61 := bt_at a0 x3_1
                replace p61 := eq_true p61
                replace q61 := eq_true q61
                have p66 : 0 ≤ ((ji63) : Int) := of_decide_eq_true (by first | (with_reducible assumption) | assumption)
                have q66 : (ji63) < (a0.size : Int) := of_decide_eq_true (by first | (with_reducible assumption) | assumption)
                have hx66 := bt_at a0 (ji63)
                replace p66 := eq_true p66
                replace q66 := eq_true q66
                have tkA67 : True := trivial
                go_wp2_with (first | (go_at_call 50; clear tkA67; (with_reducible refine (emendationref08_gap.calls (bt a0 (ji63)) false _ A67.out).mono ?_); rintro e w' ⟨rfl, ⟨nd, rfl⟩⟩; have p69 : 0 ≤ ((ji63) : Int) := of_decide_eq_true (by first | (with_reducible assumption) | assumption); have q69 : (ji63) < (a0.size : Int) := of_decide_eq_true (by first | (with_reducible assumption) | assumption); have hx69 := bt_at a0 (ji63); replace p69 := eq_true p69; replace q69 := eq_true q69; have p71 : 0 ≤ (x3_1 : Int) := of_decide_eq_true (by first | (with_reducible assumption) | assumption); have q71 : x3_1 < (a0.size : Int) := of_decide_eq_true (by first | (with_reducible assumption) | assumption); have hx71 := bt_at a0 x3_1; replace p71 := eq_true p71; replace q71 := eq_true q71; have tkA72 : True := trivial) | (go_at_call 50; clear tkA72; (with_reducible refine (emendationref08_gap.calls (bt a0 x3_1) false _ A72.out).mono ?_); rintro e w' ⟨rfl, ⟨nd, rfl⟩⟩))
                go_roundg k1
                case measure => have := HK1.out; omega
                case rel => exact ⟨(wrap64 (x3_1 + 1)), (by first | rfl | (simp; done) | (simp [*]; done) | (simp [bne, beq_nil_E]; done)), H', ⟨by have := HK1.out; omega⟩, by repeat (first | exact Drawn0.refl _ | apply Drawn0.step)⟩
              ·
               rw [if_neg c70] at H
               have c70b0 : ((bt a0 (ji63)) == 10) = false := beq_eq_false_iff_ne.mpr c70
               have c70b1 : ((bt a0 (ji63)) != 10) = true := bne_iff_ne.mpr c70
               have H' := Aside0.mk H
               clear H
               have p6 : 0 ≤ (x3_1 : Int) := of_decide_eq_true (by first | (with_reducible assumption) | assumption)
               have q6 : x3_1 < (a0.size : Int) := of_decide_eq_true (by first | (with_reducible assumption) | assumption)
               have hx6 := bt_at a0 x3_1
               replace p6 := eq_true p6
               replace q6 := eq_true q6
               have p61 : 0 ≤ (x3_1 : Int) := of_decide_eq_true (by first | (with_reducible assumption) | assumption)
               have q61 : x3_1 < (a0.size : Int) := of_decide_eq_true (by first | (with_reducible assumption) | assumption)
               have hx61 := bt_at a0 x3_1
               replace p61 := eq_true p61
               replace q61 := eq_true q61
               have p66 : 0 ≤ ((ji63) : Int) := of_decide_eq_true (by first | (with_reducible assumption) | assumption)
               have q66 : (ji63) < (a0.size : Int) := of_decide_eq_true (by first | (with_reducible assumption) | assumption)
               have hx66 := bt_at a0 (ji63)
               replace p66 := eq_true p66
               replace q66 := eq_true q66
               have tkA67 : True := trivial
               go_wp2_with (first | (go_at_call 50; clear tkA67; (with_reducible refine (emendationref08_gap.calls (bt a0 (ji63)) false _ A67.out).mono ?_); rintro e w' ⟨rfl, ⟨nd, rfl⟩⟩; have p69 : 0 ≤ ((ji63) : Int) := of_decide_eq_true (by first | (with_reducible assumption) | assumption); have q69 : (ji63) < (a0.size : Int) := of_decide_eq_true (by first | (with_reducible assumption) | assumption); have hx69 := bt_at a0 (ji63); replace p69 := eq_true p69; replace q69 := eq_true q69))
               go_roundg k1
               case measure => have := HK1.out; omega
               case rel => exact ⟨(wrap64 (x3_1 + 1)), (by first | rfl | (simp; done) | (simp [*]; done) | (simp [bne, beq_nil_E]; done)), H', ⟨by have := HK1.out; omega⟩, by repeat (first | exact Drawn0.refl _ | apply Drawn0.step)⟩
            ·
             rw [if_neg c65] at H
             exact absurd H (by simp)
           ·
            rw [if_neg c64] at H
            exact absurd H (by simp)
          ·
           rw [if_neg c62] at H
           have c62b0 : ((bt a0 x3_1) == 10) = false := beq_eq_false_iff_ne.mpr c62
           have c62b1 : ((bt a0 x3_1) != 10) = true := bne_iff_ne.mpr c62
           obtain ⟨ji74, hji74⟩ : ∃ j_ : Int, (wrap64 (x3_1 - 1)) = j_ := ⟨_, rfl⟩
           replace H : (if 0 ≤ (ji74) then (if (ji74) < (a0.size : Int) then (if (bt a0 (ji74)) = 10 then ((emendationref08_gap.f (bt a0 x3_1)).bind fun t205 => (if t205 = true then (some false) else (emendationref08_Clean.l0 k1 a0 (wrap64 (x3_1 + 1))))) else (emendationref08_Clean.l0 k1 a0 (wrap64 (x3_1 + 1)))) else (none)) else (none)) = some r := by first | (rw [hji74] at H; exact H) | (simp only [hji74] at H ⊢; exact H)
           have hji74w : (IntKind.i64.wrap (x3_1 - 1)) = ji74 := (i64_w _).trans hji74
           by_cases c75 : 0 ≤ (ji74)
           ·
            rw [if_pos c75] at H
            have c75b0 : decide (0 ≤ (ji74)) = true := decide_eq_true c75
            clear c75
            by_cases c76 : (ji74) < (a0.size : Int)
            ·
             rw [if_pos c76] at H
             have c76b0 : decide ((ji74) < (a0.size : Int)) = true := decide_eq_true c76
             clear c76
             by_cases c78 : (bt a0 (ji74)) = 10
             ·
              rw [if_pos c78] at H
              have c78b0 : ((bt a0 (ji74)) == 10) = true := beq_iff_eq.mpr c78
              have c78b1 : ((bt a0 (ji74)) != 10) = false := bne_eq_false_iff_eq.mpr c78
              clear c78
              replace H := Option.bind_eq_some_iff.mp H
              obtain ⟨t205, A800, H⟩ := H
              replace H : (if t205 = true then (some false) else (emendationref08_Clean.l0 k1 a0 (wrap64 (x3_1 + 1)))) = some r := H
              have A80 := Aside0.mk A800
              clear A800
              by_cases c81 : t205 = true
              ·
               subst c81
               have H1 : (some false) = some r := by rw [if_pos rfl] at H; exact H
               clear H
               have H := H1
               clear H1
               obtain rfl := Option.some.inj H
               have p6 : 0 ≤ (x3_1 : Int) := of_decide_eq_true (by first | (with_reducible assumption) | assumption)
               have q6 : x3_1 < (a0.size : Int) := of_decide_eq_true (by first | (with_reducible assumption) | assumption)
               have hx6 := bt_at a0 x3_1
               replace p6 := eq_true p6
               replace q6 := eq_true q6
               have p61 : 0 ≤ (x3_1 : Int) := of_decide_eq_true (by first | (with_reducible assumption) | assumption)
               have q61 : x3_1 < (a0.size : Int) := of_decide_eq_true (by first | (with_reducible assumption) | assumption)
               have hx61 := bt_at a0 x3_1
               replace p61 := eq_true p61
               replace q61 := eq_true q61
               have p77 : 0 ≤ ((ji74) : Int) := of_decide_eq_true (by first | (with_reducible assumption) | assumption)
               have q77 : (ji74) < (a0.size : Int) := of_decide_eq_true (by first | (with_reducible assumption) | assumption)
               have hx77 := bt_at a0 (ji74)
               replace p77 := eq_true p77
               replace q77 := eq_true q77
               have p79 : 0 ≤ (x3_1 : Int) := of_decide_eq_true (by first | (with_reducible assumption) | assumption)
               have q79 : x3_1 < (a0.size : Int) := of_decide_eq_true (by first | (with_reducible assumption) | assumption)
               have hx79 := bt_at a0 x3_1
               replace p79 := eq_true p79
               replace q79 := eq_true q79
               have tkA80 : True := trivial
               go_wp2_with (first | (go_at_call 50; clear tkA80; (with_reducible refine (emendationref08_gap.calls (bt a0 x3_1) true _ A80.out).mono ?_); rintro e w' ⟨rfl, ⟨nd, rfl⟩⟩))
               go_ret
               exact ⟨by first | rfl | (simp; done) | (simp only [← hji74] <;> (first | rfl | simp)) | (simp [*]; done), by repeat (first | exact Drawn0.refl _ | apply Drawn0.step)⟩
              ·
               replace c81 := Bool.eq_false_iff.mpr c81
               subst c81
               have H1 : (emendationref08_Clean.l0 k1 a0 (wrap64 (x3_1 + 1))) = some r := by rw [if_neg (show ¬ (false = true) by decide)] at H; exact H
               clear H
               have H := H1
               clear H1
               have H' := Aside0.mk H
               clear H
               have p6 : 0 ≤ (x3_1 : Int) := of_decide_eq_true (by first | (with_reducible assumption) | assumption)
               have q6 : x3_1 < (a0.size : Int) := of_decide_eq_true (by first | (with_reducible assumption) | assumption)
               have hx6 := bt_at a0 x3_1
               replace p6 := eq_true p6
               replace q6 := eq_true q6
               have p61 : 0 ≤ (x3_1 : Int) := of_decide_eq_true (by first | (with_reducible assumption) | assumption)
               have q61 : x3_1 < (a0.size : Int) := of_decide_eq_true (by first | (with_reducible assumption) | assumption)
               have hx61 := bt_at a0 x3_1
               replace p61 := eq_true p61
               replace q61 := eq_true q61
               have p77 : 0 ≤ ((ji74) : Int) := of_decide_eq_true (by first | (with_reducible assumption) | assumption)
               have q77 : (ji74) < (a0.size : Int) := of_decide_eq_true (by first | (with_reducible assumption) | assumption)
               have hx77 := bt_at a0 (ji74)
               replace p77 := eq_true p77
               replace q77 := eq_true q77
               have p79 : 0 ≤ (x3_1 : Int) := of_decide_eq_true (by first | (with_reducible assumption) | assumption)
               have q79 : x3_1 < (a0.size : Int) := of_decide_eq_true (by first | (with_reducible assumption) | assumption)
               have hx79 := bt_at a0 x3_1
               replace p79 := eq_true p79
               replace q79 := eq_true q79
               have tkA80 : True := trivial
               go_wp2_with (first | (go_at_call 50; clear tkA80; (with_reducible refine (emendationref08_gap.calls (bt a0 x3_1) false _ A80.out).mono ?_); rintro e w' ⟨rfl, ⟨nd, rfl⟩⟩))
               go_roundg k1
               case measure => have := HK1.out; omega
               case rel => exact ⟨(wrap64 (x3_1 + 1)), (by first | rfl | (simp; done) | (simp [*]; done) | (simp [bne, beq_nil_E]; done)), H', ⟨by have := HK1.out; omega⟩, by repeat (first | exact Drawn0.refl _ | apply Drawn0.step)⟩
             ·
              rw [if_neg c78] at H
              have c78b0 : ((bt a0 (ji74)) == 10) = false := beq_eq_false_iff_ne.mpr c78
              have c78b1 : ((bt a0 (ji74)) != 10) = true := bne_iff_ne.mpr c78
              have H' := Aside0.mk H
              clear H
              have p6 : 0 ≤ (x3_1 : Int) := of_decide_eq_true (by first | (with_reducible assumption) | assumption)
              have q6 : x3_1 < (a0.size : Int) := of_decide_eq_true (by first | (with_reducible assumption) | assumption)
              have hx6 := bt_at a0 x3_1
              replace p6 := eq_true p6
              replace q6 := eq_true q6
              have p61 : 0 ≤ (x3_1 : Int) := of_decide_eq_true (by first | (with_reducible assumption) | assumption)
              have q61 : x3_1 < (a0.size : Int) := of_decide_eq_true (by first | (with_reducible assumption) | assumption)
              have hx61 := bt_at a0 x3_1
              replace p61 := eq_true p61
              replace q61 := eq_true q61
              have p77 : 0 ≤ ((ji74) : Int) := of_decide_eq_true (by first | (with_reducible assumption) | assumption)
              have q77 : (ji74) < (a0.size : Int) := of_decide_eq_true (by first | (with_reducible assumption) | assumption)
              have hx77 := bt_at a0 (ji74)
              replace p77 := eq_true p77
              replace q77 := eq_true q77
              go_wp2
              go_roundg k1
              case measure => have := HK1.out; omega
              case rel => exact ⟨(wrap64 (x3_1 + 1)), (by first | rfl | (simp; done) | (simp [*]; done) | (simp [bne, beq_nil_E]; done)), H', ⟨by have := HK1.out; omega⟩, by repeat (first | exact Drawn0.refl _ | apply Drawn0.step)⟩
            ·
             rw [if_neg c76] at H
             exact absurd H (by simp)
           ·
            rw [if_neg c75] at H
            exact absurd H (by simp)
         ·
          rw [if_neg c60] at H
          have c60b0 : decide (0 < x3_1) = false := decide_eq_false c60
          clear c60
          have H' := Aside0.mk H
          clear H
          have p6 : 0 ≤ (x3_1 : Int) := of_decide_eq_true (by first | (with_reducible assumption) | assumption)
          have q6 : x3_1 < (a0.size : Int) := of_decide_eq_true (by first | (with_reducible assumption) | assumption)
          have hx6 := bt_at a0 x3_1
          replace p6 := eq_true p6
          replace q6 := eq_true q6
          go_wp2
          go_roundg k1
          case measure => have := HK1.out; omega
          case rel => exact ⟨(wrap64 (x3_1 + 1)), (by first | rfl | (simp; done) | (simp [*]; done) | (simp [bne, beq_nil_E]; done)), H', ⟨by have := HK1.out; omega⟩, by repeat (first | exact Drawn0.refl _ | apply Drawn0.step)⟩
     ·
      rw [if_neg c5] at H
      exact absurd H (by simp)
    ·
     rw [if_neg c4] at H
     have c4b0 : decide (x3_1 < (a0.size : Int)) = false := decide_eq_false c4
     clear c4
     obtain rfl := Option.some.inj H
     go_wp2
     go_ret
     exact ⟨by first | rfl | (simp; done) | (simp [*]; done) | (simp [bne, beq_nil_E]; done), by repeat (first | exact Drawn0.refl _ | apply Drawn0.step)⟩
 ·
  rw [if_neg c3] at H
  have c3b0 : (t194 == 0) = false := beq_eq_false_iff_ne.mpr c3
  have c3b1 : (t194 != 0) = true := bne_iff_ne.mpr c3
  obtain rfl := Option.some.inj H
  go_enter Tryd.func24, Tryd.ntmps24
  go_wp2_with (first | ((with_reducible refine gate_callee (f := 49) rfl ?_); refine goesL_ (some 5) rfl rfl Tryd.func49 (by kernel_rfl) rfl #[.string a0] rfl (by (try simp only [List.map_toArray, List.map_cons, List.map_nil]); first | done | rfl | (simp only [List.length_drop, List.length_take]; rfl)) ?_; (with_reducible refine (emendationref01_Check.calls k a0 t194 _ A2.out).mono ?_); rintro e w' ⟨rfl, ⟨nd, rfl⟩⟩; refine ⟨_, rfl, ?_⟩))
  go_ret
  exact ⟨by first | rfl | (simp; done) | (simp [*]; done) | (simp [bne, beq_nil_E]; done), by repeat (first | exact Drawn0.refl _ | apply Drawn0.step)⟩

end Go.Proofs.YtmfffpfenhgjbaaDoor.X
