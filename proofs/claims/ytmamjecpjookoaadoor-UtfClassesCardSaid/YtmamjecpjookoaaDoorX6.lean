-- Written by a program of this session (wip/mkprint.py over the kit's print) out of the translation; Lean checks it.
import Derived.Test.YtmamjecpjookoaaDoorX0
import Derived.Test.YtmamjecpjookoaaDoorX4
namespace Go.Proofs.YtmamjecpjookoaaDoor.X
open Go.RowKit Go.Proofs.YtmamjecpjookoaaDoor.G Go.Proofs.YtmamjecpjookoaaDoorW.PrintWords Go.Proofs.YtmamjecpjookoaaDoorW.PrintLast Go.Proofs.YtmamjecpjookoaaDoorW.PrintMore
attribute [local go_sem] max2_int min2_int max_two min_two max_three min_three max_four min_four   -- for this text's walks alone
set_option linter.unusedVariables false
set_option linter.unusedSimpArgs false

/-! ### emendationref01_Class: function 17 -/
mutual
def emendationref01_Class.j0 : Nat → Int → Bool → Option (Int)
  | 0, _, _ => none
  | k + 1, x0, x8 => if x8 = true then (some 3) else (if x0 = 9 then (emendationref01_Class.j1 k x0 true) else (emendationref01_Class.j1 k x0 (x0 == 32)))
def emendationref01_Class.j1 : Nat → Int → Bool → Option (Int)
  | 0, _, _ => none
  | k + 1, x0, x14 => if x14 = true then (some 2) else (if x0 ≥ 33 then (if x0 ≤ 47 then (some 4) else (if x0 ≥ 58 then (if x0 ≤ 64 then (some 4) else (if x0 ≥ 91 then (if x0 ≤ 96 then (some 4) else (if x0 ≥ 123 then (if x0 ≤ 126 then (some 4) else (some 1)) else (some 1))) else (if x0 ≥ 123 then (if x0 ≤ 126 then (some 4) else (some 1)) else (some 1)))) else (if x0 ≥ 91 then (if x0 ≤ 96 then (some 4) else (if x0 ≥ 123 then (if x0 ≤ 126 then (some 4) else (some 1)) else (some 1))) else (if x0 ≥ 123 then (if x0 ≤ 126 then (some 4) else (some 1)) else (some 1))))) else (if x0 ≥ 58 then (if x0 ≤ 64 then (some 4) else (if x0 ≥ 91 then (if x0 ≤ 96 then (some 4) else (if x0 ≥ 123 then (if x0 ≤ 126 then (some 4) else (some 1)) else (some 1))) else (if x0 ≥ 123 then (if x0 ≤ 126 then (some 4) else (some 1)) else (some 1)))) else (if x0 ≥ 91 then (if x0 ≤ 96 then (some 4) else (if x0 ≥ 123 then (if x0 ≤ 126 then (some 4) else (some 1)) else (some 1))) else (if x0 ≥ 123 then (if x0 ≤ 126 then (some 4) else (some 1)) else (some 1)))))
end
def emendationref01_Class.f (k : Nat) (a0 : Int) : Option (Int) := if a0 = 10 then (emendationref01_Class.j0 k a0 true) else (emendationref01_Class.j0 k a0 (a0 == 13))
theorem emendationref01_Class.mono_l : ∀ k, (∀ y0 y1, LeO (emendationref01_Class.j0 k y0 y1) (emendationref01_Class.j0 (k + 1) y0 y1)) ∧ (∀ y0 y1, LeO (emendationref01_Class.j1 k y0 y1) (emendationref01_Class.j1 (k + 1) y0 y1))
  | 0 => ⟨fun _ _ r h => by simp [emendationref01_Class.j0] at h, fun _ _ r h => by simp [emendationref01_Class.j1] at h⟩
  | k + 1 => by
    obtain ⟨ih0, ih1⟩ := emendationref01_Class.mono_l k
    refine ⟨?_, ?_⟩
    · intro y0 y1
      unfold emendationref01_Class.j0
      repeat' first
      | (with_reducible exact ih0 _ _)
      | (with_reducible exact ih1 _ _)
      | (with_reducible exact LeO.refl _)
      | (with_reducible exact LeO.none _)
      | (with_reducible refine LeO.ite ?_ ?_)
      | (with_reducible refine LeO.bind ?_ (fun _ => ?_))
      | exact ih0 _ _
      | exact ih1 _ _
      | exact LeO.none _
      | refine LeO.ite ?_ ?_
      | refine LeO.bind ?_ (fun _ => ?_)
    · intro y0 y1
      unfold emendationref01_Class.j1
      repeat' first
      | (with_reducible exact ih0 _ _)
      | (with_reducible exact ih1 _ _)
      | (with_reducible exact LeO.refl _)
      | (with_reducible exact LeO.none _)
      | (with_reducible refine LeO.ite ?_ ?_)
      | (with_reducible refine LeO.bind ?_ (fun _ => ?_))
      | exact ih0 _ _
      | exact ih1 _ _
      | exact LeO.none _
      | refine LeO.ite ?_ ?_
      | refine LeO.bind ?_ (fun _ => ?_)
theorem emendationref01_Class.mono : ∀ a0 k, LeO (emendationref01_Class.f k a0) (emendationref01_Class.f (k + 1) a0) := by
  intro a0 k
  obtain ⟨ih0, ih1⟩ := emendationref01_Class.mono_l k
  unfold emendationref01_Class.f
  repeat' first
      | (with_reducible exact ih0 _ _)
      | (with_reducible exact ih1 _ _)
      | (with_reducible exact LeO.refl _)
      | (with_reducible exact LeO.none _)
      | (with_reducible refine LeO.ite ?_ ?_)
      | (with_reducible refine LeO.bind ?_ (fun _ => ?_))
      | exact ih0 _ _
      | exact ih1 _ _
      | exact LeO.none _
      | refine LeO.ite ?_ ?_
      | refine LeO.bind ?_ (fun _ => ?_)
set_option maxHeartbeats 8000000 in
set_option maxRecDepth 100000 in
theorem emendationref01_Class.calls (k : Nat) (a0 : Int) (r : Int) (w : World) (h : emendationref01_Class.f k a0 = some r) :
    Calls Tryd.prog 17 #[.int .i64 a0] w fun e w' => e = .returned (.int .i64 r) ∧ Drawn0 w w' := by
  have H : (if a0 = 10 then (emendationref01_Class.j0 k a0 true) else (emendationref01_Class.j0 k a0 (a0 == 13))) = some r := h
  clear h
  have HC2 := Aside0.mk H
  clear H
  go_enter Tryd.func17, Tryd.ntmps17
  go_upto_region 1 with (fail)
  go_cut [8] (fun v8 wc => ∃ (kq : Nat) (x8_1 : Bool), v8 = .bool x8_1 ∧ Aside0 (emendationref01_Class.j0 kq a0 x8_1 = some r) ∧ Aside0 (kq ≤ k) ∧ Drawn0 w wc)
  case first =>
    have H := HC2.out
    clear HC2
    by_cases c3 : a0 = 10
    · rw [if_pos c3] at H
      have c3b0 : (a0 == 10) = true := beq_iff_eq.mpr c3
      have c3b1 : (a0 != 10) = false := bne_eq_false_iff_eq.mpr c3
      clear c3
      (first | rw [c3b0] | (simp only [i64_w, i32_w]; rw [c3b0]) | skip)
      have H' := Aside0.mk H
      clear H
      go_wp2
      go_meet
      case rel => exact ⟨_, (true), (by first | rfl | (simp; done) | (simp [*]; done) | (simp [bne, beq_nil_E]; done)), H', ⟨by first | omega | exact Nat.le_refl _⟩, by repeat (first | exact Drawn0.refl _ | apply Drawn0.step)⟩
    · rw [if_neg c3] at H
      have c3b0 : (a0 == 10) = false := beq_eq_false_iff_ne.mpr c3
      have c3b1 : (a0 != 10) = true := bne_iff_ne.mpr c3
      (first | rw [c3b0] | (simp only [i64_w, i32_w]; rw [c3b0]) | skip)
      have H' := Aside0.mk H
      clear H
      go_wp2
      go_meet
      case rel => exact ⟨_, ((a0 == 13)), (by first | rfl | (simp; done) | (simp [*]; done) | (simp [bne, beq_nil_E]; done)), H', ⟨by first | omega | exact Nat.le_refl _⟩, by repeat (first | exact Drawn0.refl _ | apply Drawn0.step)⟩
  case rest =>
    clear HC2
    try clear c1
    try clear p2
    try clear c3
    try clear c3b0
    try clear c3b1
    obtain ⟨kq, x8_1, rfl, HA, HJ1, ⟨mc1, rfl⟩⟩ := hcut
    cases kq with
    | zero => exact absurd HA.out (by simp [emendationref01_Class.j0])
    | succ kj1 =>
      have H := HA.out
      clear HA
      simp only [emendationref01_Class.j0] at H
      by_cases c4 : x8_1 = true
      · subst c4
        have H1 : (some 3) = some r := by rw [if_pos rfl] at H; exact H
        clear H
        have H := H1
        clear H1
        obtain rfl := Option.some.inj H
        go_wp2
        go_ret
        exact ⟨by first | rfl | (simp; done) | (simp [*]; done) | (simp [bne, beq_nil_E]; done), by repeat (first | exact Drawn0.refl _ | apply Drawn0.step)⟩
      · replace c4 := Bool.eq_false_iff.mpr c4
        subst c4
        have H1 : (if a0 = 9 then (emendationref01_Class.j1 kj1 a0 true) else (emendationref01_Class.j1 kj1 a0 (a0 == 32))) = some r := by rw [if_neg (show ¬ (false = true) by decide)] at H; exact H
        clear H
        have H := H1
        clear H1
        have HC5 := Aside0.mk H
        clear H
        go_upto_region 3 with (fail)
        go_cut [14] (fun v14 wc => ∃ (kq : Nat) (x14_4 : Bool), v14 = .bool x14_4 ∧ Aside0 (emendationref01_Class.j1 kq a0 x14_4 = some r) ∧ Aside0 (kq ≤ kj1) ∧ Drawn0 w wc)
        case first =>
          have H := HC5.out
          clear HC5
          by_cases c6 : a0 = 9
          · rw [if_pos c6] at H
            have c6b0 : (a0 == 9) = true := beq_iff_eq.mpr c6
            have c6b1 : (a0 != 9) = false := bne_eq_false_iff_eq.mpr c6
            clear c6
            (first | rw [c6b0] | (simp only [i64_w, i32_w]; rw [c6b0]) | skip)
            have H' := Aside0.mk H
            clear H
            go_wp2
            go_meet
            case rel => exact ⟨_, (true), (by first | rfl | (simp; done) | (simp [*]; done) | (simp [bne, beq_nil_E]; done)), H', ⟨by have := HJ1.out; first | omega | exact Nat.le_refl _⟩, by repeat (first | exact Drawn0.refl _ | apply Drawn0.step)⟩
          · rw [if_neg c6] at H
            have c6b0 : (a0 == 9) = false := beq_eq_false_iff_ne.mpr c6
            have c6b1 : (a0 != 9) = true := bne_iff_ne.mpr c6
            (first | rw [c6b0] | (simp only [i64_w, i32_w]; rw [c6b0]) | skip)
            have H' := Aside0.mk H
            clear H
            go_wp2
            go_meet
            case rel => exact ⟨_, ((a0 == 32)), (by first | rfl | (simp; done) | (simp [*]; done) | (simp [bne, beq_nil_E]; done)), H', ⟨by have := HJ1.out; first | omega | exact Nat.le_refl _⟩, by repeat (first | exact Drawn0.refl _ | apply Drawn0.step)⟩
        case rest =>
          clear HC5
          try clear c1
          try clear p2
          try clear c3
          try clear c3b0
          try clear c3b1
          try clear c4
          try clear c6
          try clear c6b0
          try clear c6b1
          try clear p2
          obtain ⟨kq, x14_4, rfl, HA, HJ4, ⟨mc4, rfl⟩⟩ := hcut
          cases kq with
          | zero => exact absurd HA.out (by simp [emendationref01_Class.j1])
          | succ kj4 =>
            have H := HA.out
            clear HA
            simp only [emendationref01_Class.j1] at H
            by_cases c7 : x14_4 = true
            · subst c7
              have H1 : (some 2) = some r := by rw [if_pos rfl] at H; exact H
              clear H
              have H := H1
              clear H1
              obtain rfl := Option.some.inj H
              go_wp2
              go_ret
              exact ⟨by first | rfl | (simp; done) | (simp [*]; done) | (simp [bne, beq_nil_E]; done), by repeat (first | exact Drawn0.refl _ | apply Drawn0.step)⟩
            · replace c7 := Bool.eq_false_iff.mpr c7
              subst c7
              have H1 : (if a0 ≥ 33 then (if a0 ≤ 47 then (some 4) else (if a0 ≥ 58 then (if a0 ≤ 64 then (some 4) else (if a0 ≥ 91 then (if a0 ≤ 96 then (some 4) else (if a0 ≥ 123 then (if a0 ≤ 126 then (some 4) else (some 1)) else (some 1))) else (if a0 ≥ 123 then (if a0 ≤ 126 then (some 4) else (some 1)) else (some 1)))) else (if a0 ≥ 91 then (if a0 ≤ 96 then (some 4) else (if a0 ≥ 123 then (if a0 ≤ 126 then (some 4) else (some 1)) else (some 1))) else (if a0 ≥ 123 then (if a0 ≤ 126 then (some 4) else (some 1)) else (some 1))))) else (if a0 ≥ 58 then (if a0 ≤ 64 then (some 4) else (if a0 ≥ 91 then (if a0 ≤ 96 then (some 4) else (if a0 ≥ 123 then (if a0 ≤ 126 then (some 4) else (some 1)) else (some 1))) else (if a0 ≥ 123 then (if a0 ≤ 126 then (some 4) else (some 1)) else (some 1)))) else (if a0 ≥ 91 then (if a0 ≤ 96 then (some 4) else (if a0 ≥ 123 then (if a0 ≤ 126 then (some 4) else (some 1)) else (some 1))) else (if a0 ≥ 123 then (if a0 ≤ 126 then (some 4) else (some 1)) else (some 1))))) = some r := by rw [if_neg (show ¬ (false = true) by decide)] at H; exact H
              clear H
              have H := H1
              clear H1
              by_cases c8 : a0 ≥ 33
              · rw [if_pos c8] at H
                have c8b0 : decide (33 ≤ a0) = true := decide_eq_true c8
                clear c8
                by_cases c9 : a0 ≤ 47
                · rw [if_pos c9] at H
                  have c9b0 : decide (a0 ≤ 47) = true := decide_eq_true c9
                  clear c9
                  obtain rfl := Option.some.inj H
                  go_wp2
                  go_ret
                  exact ⟨by first | rfl | (simp; done) | (simp [*]; done) | (simp [bne, beq_nil_E]; done), by repeat (first | exact Drawn0.refl _ | apply Drawn0.step)⟩
                · rw [if_neg c9] at H
                  have c9b0 : decide (a0 ≤ 47) = false := decide_eq_false c9
                  clear c9
                  by_cases c10 : a0 ≥ 58
                  · rw [if_pos c10] at H
                    have c10b0 : decide (58 ≤ a0) = true := decide_eq_true c10
                    clear c10
                    by_cases c11 : a0 ≤ 64
                    · rw [if_pos c11] at H
                      have c11b0 : decide (a0 ≤ 64) = true := decide_eq_true c11
                      clear c11
                      obtain rfl := Option.some.inj H
                      go_wp2
                      go_ret
                      exact ⟨by first | rfl | (simp; done) | (simp [*]; done) | (simp [bne, beq_nil_E]; done), by repeat (first | exact Drawn0.refl _ | apply Drawn0.step)⟩
                    · rw [if_neg c11] at H
                      have c11b0 : decide (a0 ≤ 64) = false := decide_eq_false c11
                      clear c11
                      by_cases c12 : a0 ≥ 91
                      · rw [if_pos c12] at H
                        have c12b0 : decide (91 ≤ a0) = true := decide_eq_true c12
                        clear c12
                        by_cases c13 : a0 ≤ 96
                        · rw [if_pos c13] at H
                          have c13b0 : decide (a0 ≤ 96) = true := decide_eq_true c13
                          clear c13
                          obtain rfl := Option.some.inj H
                          go_wp2
                          go_ret
                          exact ⟨by first | rfl | (simp; done) | (simp [*]; done) | (simp [bne, beq_nil_E]; done), by repeat (first | exact Drawn0.refl _ | apply Drawn0.step)⟩
                        · rw [if_neg c13] at H
                          have c13b0 : decide (a0 ≤ 96) = false := decide_eq_false c13
                          clear c13
                          by_cases c14 : a0 ≥ 123
                          · rw [if_pos c14] at H
                            have c14b0 : decide (123 ≤ a0) = true := decide_eq_true c14
                            clear c14
                            by_cases c15 : a0 ≤ 126
                            · rw [if_pos c15] at H
                              have c15b0 : decide (a0 ≤ 126) = true := decide_eq_true c15
                              clear c15
                              obtain rfl := Option.some.inj H
                              go_wp2
                              go_ret
                              exact ⟨by first | rfl | (simp; done) | (simp [*]; done) | (simp [bne, beq_nil_E]; done), by repeat (first | exact Drawn0.refl _ | apply Drawn0.step)⟩
                            · rw [if_neg c15] at H
                              have c15b0 : decide (a0 ≤ 126) = false := decide_eq_false c15
                              clear c15
                              obtain rfl := Option.some.inj H
                              go_wp2
                              go_ret
                              exact ⟨by first | rfl | (simp; done) | (simp [*]; done) | (simp [bne, beq_nil_E]; done), by repeat (first | exact Drawn0.refl _ | apply Drawn0.step)⟩
                          · rw [if_neg c14] at H
                            have c14b0 : decide (123 ≤ a0) = false := decide_eq_false c14
                            clear c14
                            obtain rfl := Option.some.inj H
                            go_wp2
                            go_ret
                            exact ⟨by first | rfl | (simp; done) | (simp [*]; done) | (simp [bne, beq_nil_E]; done), by repeat (first | exact Drawn0.refl _ | apply Drawn0.step)⟩
                      · rw [if_neg c12] at H
                        have c12b0 : decide (91 ≤ a0) = false := decide_eq_false c12
                        clear c12
                        by_cases c16 : a0 ≥ 123
                        · rw [if_pos c16] at H
                          have c16b0 : decide (123 ≤ a0) = true := decide_eq_true c16
                          clear c16
                          by_cases c17 : a0 ≤ 126
                          · rw [if_pos c17] at H
                            have c17b0 : decide (a0 ≤ 126) = true := decide_eq_true c17
                            clear c17
                            obtain rfl := Option.some.inj H
                            go_wp2
                            go_ret
                            exact ⟨by first | rfl | (simp; done) | (simp [*]; done) | (simp [bne, beq_nil_E]; done), by repeat (first | exact Drawn0.refl _ | apply Drawn0.step)⟩
                          · rw [if_neg c17] at H
                            have c17b0 : decide (a0 ≤ 126) = false := decide_eq_false c17
                            clear c17
                            obtain rfl := Option.some.inj H
                            go_wp2
                            go_ret
                            exact ⟨by first | rfl | (simp; done) | (simp [*]; done) | (simp [bne, beq_nil_E]; done), by repeat (first | exact Drawn0.refl _ | apply Drawn0.step)⟩
                        · rw [if_neg c16] at H
                          have c16b0 : decide (123 ≤ a0) = false := decide_eq_false c16
                          clear c16
                          obtain rfl := Option.some.inj H
                          go_wp2
                          go_ret
                          exact ⟨by first | rfl | (simp; done) | (simp [*]; done) | (simp [bne, beq_nil_E]; done), by repeat (first | exact Drawn0.refl _ | apply Drawn0.step)⟩
                  · rw [if_neg c10] at H
                    have c10b0 : decide (58 ≤ a0) = false := decide_eq_false c10
                    clear c10
                    by_cases c18 : a0 ≥ 91
                    · rw [if_pos c18] at H
                      have c18b0 : decide (91 ≤ a0) = true := decide_eq_true c18
                      clear c18
                      by_cases c19 : a0 ≤ 96
                      · rw [if_pos c19] at H
                        have c19b0 : decide (a0 ≤ 96) = true := decide_eq_true c19
                        clear c19
                        obtain rfl := Option.some.inj H
                        go_wp2
                        go_ret
                        exact ⟨by first | rfl | (simp; done) | (simp [*]; done) | (simp [bne, beq_nil_E]; done), by repeat (first | exact Drawn0.refl _ | apply Drawn0.step)⟩
                      · rw [if_neg c19] at H
                        have c19b0 : decide (a0 ≤ 96) = false := decide_eq_false c19
                        clear c19
                        by_cases c20 : a0 ≥ 123
                        · rw [if_pos c20] at H
                          have c20b0 : decide (123 ≤ a0) = true := decide_eq_true c20
                          clear c20
                          by_cases c21 : a0 ≤ 126
                          · rw [if_pos c21] at H
                            have c21b0 : decide (a0 ≤ 126) = true := decide_eq_true c21
                            clear c21
                            obtain rfl := Option.some.inj H
                            go_wp2
                            go_ret
                            exact ⟨by first | rfl | (simp; done) | (simp [*]; done) | (simp [bne, beq_nil_E]; done), by repeat (first | exact Drawn0.refl _ | apply Drawn0.step)⟩
                          · rw [if_neg c21] at H
                            have c21b0 : decide (a0 ≤ 126) = false := decide_eq_false c21
                            clear c21
                            obtain rfl := Option.some.inj H
                            go_wp2
                            go_ret
                            exact ⟨by first | rfl | (simp; done) | (simp [*]; done) | (simp [bne, beq_nil_E]; done), by repeat (first | exact Drawn0.refl _ | apply Drawn0.step)⟩
                        · rw [if_neg c20] at H
                          have c20b0 : decide (123 ≤ a0) = false := decide_eq_false c20
                          clear c20
                          obtain rfl := Option.some.inj H
                          go_wp2
                          go_ret
                          exact ⟨by first | rfl | (simp; done) | (simp [*]; done) | (simp [bne, beq_nil_E]; done), by repeat (first | exact Drawn0.refl _ | apply Drawn0.step)⟩
                    · rw [if_neg c18] at H
                      have c18b0 : decide (91 ≤ a0) = false := decide_eq_false c18
                      clear c18
                      by_cases c22 : a0 ≥ 123
                      · rw [if_pos c22] at H
                        have c22b0 : decide (123 ≤ a0) = true := decide_eq_true c22
                        clear c22
                        by_cases c23 : a0 ≤ 126
                        · rw [if_pos c23] at H
                          have c23b0 : decide (a0 ≤ 126) = true := decide_eq_true c23
                          clear c23
                          obtain rfl := Option.some.inj H
                          go_wp2
                          go_ret
                          exact ⟨by first | rfl | (simp; done) | (simp [*]; done) | (simp [bne, beq_nil_E]; done), by repeat (first | exact Drawn0.refl _ | apply Drawn0.step)⟩
                        · rw [if_neg c23] at H
                          have c23b0 : decide (a0 ≤ 126) = false := decide_eq_false c23
                          clear c23
                          obtain rfl := Option.some.inj H
                          go_wp2
                          go_ret
                          exact ⟨by first | rfl | (simp; done) | (simp [*]; done) | (simp [bne, beq_nil_E]; done), by repeat (first | exact Drawn0.refl _ | apply Drawn0.step)⟩
                      · rw [if_neg c22] at H
                        have c22b0 : decide (123 ≤ a0) = false := decide_eq_false c22
                        clear c22
                        obtain rfl := Option.some.inj H
                        go_wp2
                        go_ret
                        exact ⟨by first | rfl | (simp; done) | (simp [*]; done) | (simp [bne, beq_nil_E]; done), by repeat (first | exact Drawn0.refl _ | apply Drawn0.step)⟩
              · rw [if_neg c8] at H
                have c8b0 : decide (33 ≤ a0) = false := decide_eq_false c8
                clear c8
                by_cases c24 : a0 ≥ 58
                · rw [if_pos c24] at H
                  have c24b0 : decide (58 ≤ a0) = true := decide_eq_true c24
                  clear c24
                  by_cases c25 : a0 ≤ 64
                  · rw [if_pos c25] at H
                    have c25b0 : decide (a0 ≤ 64) = true := decide_eq_true c25
                    clear c25
                    obtain rfl := Option.some.inj H
                    go_wp2
                    go_ret
                    exact ⟨by first | rfl | (simp; done) | (simp [*]; done) | (simp [bne, beq_nil_E]; done), by repeat (first | exact Drawn0.refl _ | apply Drawn0.step)⟩
                  · rw [if_neg c25] at H
                    have c25b0 : decide (a0 ≤ 64) = false := decide_eq_false c25
                    clear c25
                    by_cases c26 : a0 ≥ 91
                    · rw [if_pos c26] at H
                      have c26b0 : decide (91 ≤ a0) = true := decide_eq_true c26
                      clear c26
                      by_cases c27 : a0 ≤ 96
                      · rw [if_pos c27] at H
                        have c27b0 : decide (a0 ≤ 96) = true := decide_eq_true c27
                        clear c27
                        obtain rfl := Option.some.inj H
                        go_wp2
                        go_ret
                        exact ⟨by first | rfl | (simp; done) | (simp [*]; done) | (simp [bne, beq_nil_E]; done), by repeat (first | exact Drawn0.refl _ | apply Drawn0.step)⟩
                      · rw [if_neg c27] at H
                        have c27b0 : decide (a0 ≤ 96) = false := decide_eq_false c27
                        clear c27
                        by_cases c28 : a0 ≥ 123
                        · rw [if_pos c28] at H
                          have c28b0 : decide (123 ≤ a0) = true := decide_eq_true c28
                          clear c28
                          by_cases c29 : a0 ≤ 126
                          · rw [if_pos c29] at H
                            have c29b0 : decide (a0 ≤ 126) = true := decide_eq_true c29
                            clear c29
                            obtain rfl := Option.some.inj H
                            go_wp2
                            go_ret
                            exact ⟨by first | rfl | (simp; done) | (simp [*]; done) | (simp [bne, beq_nil_E]; done), by repeat (first | exact Drawn0.refl _ | apply Drawn0.step)⟩
                          · rw [if_neg c29] at H
                            have c29b0 : decide (a0 ≤ 126) = false := decide_eq_false c29
                            clear c29
                            obtain rfl := Option.some.inj H
                            go_wp2
                            go_ret
                            exact ⟨by first | rfl | (simp; done) | (simp [*]; done) | (simp [bne, beq_nil_E]; done), by repeat (first | exact Drawn0.refl _ | apply Drawn0.step)⟩
                        · rw [if_neg c28] at H
                          have c28b0 : decide (123 ≤ a0) = false := decide_eq_false c28
                          clear c28
                          obtain rfl := Option.some.inj H
                          go_wp2
                          go_ret
                          exact ⟨by first | rfl | (simp; done) | (simp [*]; done) | (simp [bne, beq_nil_E]; done), by repeat (first | exact Drawn0.refl _ | apply Drawn0.step)⟩
                    · rw [if_neg c26] at H
                      have c26b0 : decide (91 ≤ a0) = false := decide_eq_false c26
                      clear c26
                      by_cases c30 : a0 ≥ 123
                      · rw [if_pos c30] at H
                        have c30b0 : decide (123 ≤ a0) = true := decide_eq_true c30
                        clear c30
                        by_cases c31 : a0 ≤ 126
                        · rw [if_pos c31] at H
                          have c31b0 : decide (a0 ≤ 126) = true := decide_eq_true c31
                          clear c31
                          obtain rfl := Option.some.inj H
                          go_wp2
                          go_ret
                          exact ⟨by first | rfl | (simp; done) | (simp [*]; done) | (simp [bne, beq_nil_E]; done), by repeat (first | exact Drawn0.refl _ | apply Drawn0.step)⟩
                        · rw [if_neg c31] at H
                          have c31b0 : decide (a0 ≤ 126) = false := decide_eq_false c31
                          clear c31
                          obtain rfl := Option.some.inj H
                          go_wp2
                          go_ret
                          exact ⟨by first | rfl | (simp; done) | (simp [*]; done) | (simp [bne, beq_nil_E]; done), by repeat (first | exact Drawn0.refl _ | apply Drawn0.step)⟩
                      · rw [if_neg c30] at H
                        have c30b0 : decide (123 ≤ a0) = false := decide_eq_false c30
                        clear c30
                        obtain rfl := Option.some.inj H
                        go_wp2
                        go_ret
                        exact ⟨by first | rfl | (simp; done) | (simp [*]; done) | (simp [bne, beq_nil_E]; done), by repeat (first | exact Drawn0.refl _ | apply Drawn0.step)⟩
                · rw [if_neg c24] at H
                  have c24b0 : decide (58 ≤ a0) = false := decide_eq_false c24
                  clear c24
                  by_cases c32 : a0 ≥ 91
                  · rw [if_pos c32] at H
                    have c32b0 : decide (91 ≤ a0) = true := decide_eq_true c32
                    clear c32
                    by_cases c33 : a0 ≤ 96
                    · rw [if_pos c33] at H
                      have c33b0 : decide (a0 ≤ 96) = true := decide_eq_true c33
                      clear c33
                      obtain rfl := Option.some.inj H
                      go_wp2
                      go_ret
                      exact ⟨by first | rfl | (simp; done) | (simp [*]; done) | (simp [bne, beq_nil_E]; done), by repeat (first | exact Drawn0.refl _ | apply Drawn0.step)⟩
                    · rw [if_neg c33] at H
                      have c33b0 : decide (a0 ≤ 96) = false := decide_eq_false c33
                      clear c33
                      by_cases c34 : a0 ≥ 123
                      · rw [if_pos c34] at H
                        have c34b0 : decide (123 ≤ a0) = true := decide_eq_true c34
                        clear c34
                        by_cases c35 : a0 ≤ 126
                        · rw [if_pos c35] at H
                          have c35b0 : decide (a0 ≤ 126) = true := decide_eq_true c35
                          clear c35
                          obtain rfl := Option.some.inj H
                          go_wp2
                          go_ret
                          exact ⟨by first | rfl | (simp; done) | (simp [*]; done) | (simp [bne, beq_nil_E]; done), by repeat (first | exact Drawn0.refl _ | apply Drawn0.step)⟩
                        · rw [if_neg c35] at H
                          have c35b0 : decide (a0 ≤ 126) = false := decide_eq_false c35
                          clear c35
                          obtain rfl := Option.some.inj H
                          go_wp2
                          go_ret
                          exact ⟨by first | rfl | (simp; done) | (simp [*]; done) | (simp [bne, beq_nil_E]; done), by repeat (first | exact Drawn0.refl _ | apply Drawn0.step)⟩
                      · rw [if_neg c34] at H
                        have c34b0 : decide (123 ≤ a0) = false := decide_eq_false c34
                        clear c34
                        obtain rfl := Option.some.inj H
                        go_wp2
                        go_ret
                        exact ⟨by first | rfl | (simp; done) | (simp [*]; done) | (simp [bne, beq_nil_E]; done), by repeat (first | exact Drawn0.refl _ | apply Drawn0.step)⟩
                  · rw [if_neg c32] at H
                    have c32b0 : decide (91 ≤ a0) = false := decide_eq_false c32
                    clear c32
                    by_cases c36 : a0 ≥ 123
                    · rw [if_pos c36] at H
                      have c36b0 : decide (123 ≤ a0) = true := decide_eq_true c36
                      clear c36
                      by_cases c37 : a0 ≤ 126
                      · rw [if_pos c37] at H
                        have c37b0 : decide (a0 ≤ 126) = true := decide_eq_true c37
                        clear c37
                        obtain rfl := Option.some.inj H
                        go_wp2
                        go_ret
                        exact ⟨by first | rfl | (simp; done) | (simp [*]; done) | (simp [bne, beq_nil_E]; done), by repeat (first | exact Drawn0.refl _ | apply Drawn0.step)⟩
                      · rw [if_neg c37] at H
                        have c37b0 : decide (a0 ≤ 126) = false := decide_eq_false c37
                        clear c37
                        obtain rfl := Option.some.inj H
                        go_wp2
                        go_ret
                        exact ⟨by first | rfl | (simp; done) | (simp [*]; done) | (simp [bne, beq_nil_E]; done), by repeat (first | exact Drawn0.refl _ | apply Drawn0.step)⟩
                    · rw [if_neg c36] at H
                      have c36b0 : decide (123 ≤ a0) = false := decide_eq_false c36
                      clear c36
                      obtain rfl := Option.some.inj H
                      go_wp2
                      go_ret
                      exact ⟨by first | rfl | (simp; done) | (simp [*]; done) | (simp [bne, beq_nil_E]; done), by repeat (first | exact Drawn0.refl _ | apply Drawn0.step)⟩

/-! ### utf_Escapes: function 18 -/
def utf_Escapes.f (k : Nat) (a0 : Int) : Option (Bool) := (utf_Class.f k (wrap64 (a0))).bind fun t164 => (some (t164 == 4))
theorem utf_Escapes.mono : ∀ a0 k, LeO (utf_Escapes.f k a0) (utf_Escapes.f (k + 1) a0) := by
  intro a0 k
  unfold utf_Escapes.f
  repeat' first
      | (with_reducible exact utf_Class.mono _ _)
      | (with_reducible exact LeO.refl _)
      | (with_reducible exact LeO.none _)
      | (with_reducible refine LeO.ite ?_ ?_)
      | (with_reducible refine LeO.bind ?_ (fun _ => ?_))
      | exact utf_Class.mono _ _
      | exact LeO.none _
      | refine LeO.ite ?_ ?_
      | refine LeO.bind ?_ (fun _ => ?_)
set_option maxHeartbeats 8000000 in
set_option maxRecDepth 100000 in
theorem utf_Escapes.calls (k : Nat) (a0 : Int) (r : Bool) (w : World) (h : utf_Escapes.f k a0 = some r) :
    Calls Tryd.prog 18 #[.int .u8 a0] w fun e w' => e = .returned (.bool r) ∧ Drawn0 w w' := by
  have H : ((utf_Class.f k (wrap64 (a0))).bind fun t164 => (some (t164 == 4))) = some r := h
  clear h
  replace H := Option.bind_eq_some_iff.mp H
  obtain ⟨t164, A20, H⟩ := H
  replace H : (some (t164 == 4)) = some r := H
  have A2 := Aside0.mk A20
  clear A20
  obtain rfl := Option.some.inj H
  go_enter Tryd.func18, Tryd.ntmps18
  go_wp2_with (first | ((with_reducible refine gate_callee (f := 16) rfl ?_); refine goesL_ (some 5) rfl rfl Tryd.func16 (by kernel_rfl) rfl #[.int .i64 (wrap64 (a0))] rfl (by (try simp only [List.map_toArray, List.map_cons, List.map_nil]); first | done | rfl | (simp only [List.length_drop, List.length_take]; rfl)) ?_; (with_reducible refine (utf_Class.calls k (wrap64 (a0)) t164 _ A2.out).mono ?_); rintro e w' ⟨rfl, ⟨nd, rfl⟩⟩; refine ⟨_, rfl, ?_⟩))
  go_ret
  exact ⟨by first | rfl | (simp; done) | (simp [*]; done) | (simp [bne, beq_nil_E]; done), by repeat (first | exact Drawn0.refl _ | apply Drawn0.step)⟩

/-! ### emendationref01_gap: function 27 -/
def emendationref01_gap.f (a0 : Int) : Option (Bool) := if a0 = 9 then (some true) else (if a0 = 10 then (some true) else (if a0 = 13 then (some true) else (some (a0 == 32))))
set_option maxHeartbeats 8000000 in
set_option maxRecDepth 100000 in
theorem emendationref01_gap.calls (a0 : Int) (r : Bool) (w : World) (h : emendationref01_gap.f a0 = some r) :
    Calls Tryd.prog 27 #[.int .u8 a0] w fun e w' => e = .returned (.bool r) ∧ Drawn0 w w' := by
  have H : (if a0 = 9 then (some true) else (if a0 = 10 then (some true) else (if a0 = 13 then (some true) else (some (a0 == 32))))) = some r := h
  clear h
  by_cases c2 : a0 = 9
  · rw [if_pos c2] at H
    have c2b0 : (a0 == 9) = true := beq_iff_eq.mpr c2
    have c2b1 : (a0 != 9) = false := bne_eq_false_iff_eq.mpr c2
    clear c2
    obtain rfl := Option.some.inj H
    go_enter Tryd.func27, Tryd.ntmps27
    go_wp2
    go_ret
    exact ⟨by first | rfl | (simp; done) | (simp [*]; done) | (simp [bne, beq_nil_E]; done), by repeat (first | exact Drawn0.refl _ | apply Drawn0.step)⟩
  · rw [if_neg c2] at H
    have c2b0 : (a0 == 9) = false := beq_eq_false_iff_ne.mpr c2
    have c2b1 : (a0 != 9) = true := bne_iff_ne.mpr c2
    by_cases c3 : a0 = 10
    · rw [if_pos c3] at H
      have c3b0 : (a0 == 10) = true := beq_iff_eq.mpr c3
      have c3b1 : (a0 != 10) = false := bne_eq_false_iff_eq.mpr c3
      clear c3
      obtain rfl := Option.some.inj H
      go_enter Tryd.func27, Tryd.ntmps27
      go_wp2
      go_ret
      exact ⟨by first | rfl | (simp; done) | (simp [*]; done) | (simp [bne, beq_nil_E]; done), by repeat (first | exact Drawn0.refl _ | apply Drawn0.step)⟩
    · rw [if_neg c3] at H
      have c3b0 : (a0 == 10) = false := beq_eq_false_iff_ne.mpr c3
      have c3b1 : (a0 != 10) = true := bne_iff_ne.mpr c3
      by_cases c4 : a0 = 13
      · rw [if_pos c4] at H
        have c4b0 : (a0 == 13) = true := beq_iff_eq.mpr c4
        have c4b1 : (a0 != 13) = false := bne_eq_false_iff_eq.mpr c4
        clear c4
        obtain rfl := Option.some.inj H
        go_enter Tryd.func27, Tryd.ntmps27
        go_wp2
        go_ret
        exact ⟨by first | rfl | (simp; done) | (simp [*]; done) | (simp [bne, beq_nil_E]; done), by repeat (first | exact Drawn0.refl _ | apply Drawn0.step)⟩
      · rw [if_neg c4] at H
        have c4b0 : (a0 == 13) = false := beq_eq_false_iff_ne.mpr c4
        have c4b1 : (a0 != 13) = true := bne_iff_ne.mpr c4
        obtain rfl := Option.some.inj H
        go_enter Tryd.func27, Tryd.ntmps27
        go_wp2
        go_ret
        exact ⟨by first | rfl | (simp; done) | (simp [*]; done) | (simp [bne, beq_nil_E]; done), by repeat (first | exact Drawn0.refl _ | apply Drawn0.step)⟩

/-! ### emendationref01_Fold: function 19 -/
def emendationref01_Fold.l0 : Nat → ByteArray → ByteArray → Bool → Int → Option (ByteArray)
  | 0, _, _, _, _ => none
  | k + 1, x0, x3, x4, x5 => if x5 < (x0.size : Int) then (if 0 ≤ x5 then ((emendationref01_gap.f (bt x0 x5)).bind fun t165 => (if t165 = true then (emendationref01_Fold.l0 k x0 x3 (x3.toList != ([] : List UInt8)) (wrap64 (x5 + 1))) else (if x4 = true then (if x3.size + 1 ≤ 9223372036854775807 then (if (bt x0 x5) ≥ 65 then (if (bt x0 x5) ≤ 90 then ((some (([((bt x0 x5) + 32) % 256] : List Int) : List Int)).bind fun y166 => (if (x3 ++ (⟨#[32]⟩ : ByteArray)).size + (strOfNums y166).size ≤ 9223372036854775807 then (emendationref01_Fold.l0 k x0 ((x3 ++ (⟨#[32]⟩ : ByteArray)) ++ (strOfNums y166)) false (wrap64 (x5 + 1))) else (none))) else ((some (([bt x0 x5] : List Int) : List Int)).bind fun y169 => (if (x3 ++ (⟨#[32]⟩ : ByteArray)).size + (strOfNums y169).size ≤ 9223372036854775807 then (emendationref01_Fold.l0 k x0 ((x3 ++ (⟨#[32]⟩ : ByteArray)) ++ (strOfNums y169)) false (wrap64 (x5 + 1))) else (none)))) else ((some (([bt x0 x5] : List Int) : List Int)).bind fun y172 => (if (x3 ++ (⟨#[32]⟩ : ByteArray)).size + (strOfNums y172).size ≤ 9223372036854775807 then (emendationref01_Fold.l0 k x0 ((x3 ++ (⟨#[32]⟩ : ByteArray)) ++ (strOfNums y172)) false (wrap64 (x5 + 1))) else (none)))) else (none)) else (if (bt x0 x5) ≥ 65 then (if (bt x0 x5) ≤ 90 then ((some (([((bt x0 x5) + 32) % 256] : List Int) : List Int)).bind fun y175 => (if x3.size + (strOfNums y175).size ≤ 9223372036854775807 then (emendationref01_Fold.l0 k x0 (x3 ++ (strOfNums y175)) x4 (wrap64 (x5 + 1))) else (none))) else ((some (([bt x0 x5] : List Int) : List Int)).bind fun y178 => (if x3.size + (strOfNums y178).size ≤ 9223372036854775807 then (emendationref01_Fold.l0 k x0 (x3 ++ (strOfNums y178)) x4 (wrap64 (x5 + 1))) else (none)))) else ((some (([bt x0 x5] : List Int) : List Int)).bind fun y181 => (if x3.size + (strOfNums y181).size ≤ 9223372036854775807 then (emendationref01_Fold.l0 k x0 (x3 ++ (strOfNums y181)) x4 (wrap64 (x5 + 1))) else (none))))))) else (none)) else (some x3)
def emendationref01_Fold.f (k : Nat) (a0 : ByteArray) : Option (ByteArray) := emendationref01_Fold.l0 k a0 (⟨#[]⟩ : ByteArray) false 0
theorem emendationref01_Fold.mono_l : ∀ k, (∀ y0 y1 y2 y3, LeO (emendationref01_Fold.l0 k y0 y1 y2 y3) (emendationref01_Fold.l0 (k + 1) y0 y1 y2 y3))
  | 0 => fun _ _ _ _ r h => by simp [emendationref01_Fold.l0] at h
  | k + 1 => by
    have ih0 := emendationref01_Fold.mono_l k
    · intro y0 y1 y2 y3
      unfold emendationref01_Fold.l0
      repeat' first
      | (with_reducible exact ih0 _ _ _ _)
      | (with_reducible exact LeO.refl _)
      | (with_reducible exact LeO.none _)
      | (with_reducible refine LeO.ite ?_ ?_)
      | (with_reducible refine LeO.bind ?_ (fun _ => ?_))
      | exact ih0 _ _ _ _
      | exact LeO.none _
      | refine LeO.ite ?_ ?_
      | refine LeO.bind ?_ (fun _ => ?_)
theorem emendationref01_Fold.mono : ∀ a0 k, LeO (emendationref01_Fold.f k a0) (emendationref01_Fold.f (k + 1) a0) := by
  intro a0 k
  have ih0 := emendationref01_Fold.mono_l k
  unfold emendationref01_Fold.f
  repeat' first
      | (with_reducible exact ih0 _ _ _ _)
      | (with_reducible exact LeO.refl _)
      | (with_reducible exact LeO.none _)
      | (with_reducible refine LeO.ite ?_ ?_)
      | (with_reducible refine LeO.bind ?_ (fun _ => ?_))
      | exact ih0 _ _ _ _
      | exact LeO.none _
      | refine LeO.ite ?_ ?_
      | refine LeO.bind ?_ (fun _ => ?_)
set_option maxHeartbeats 8000000 in
set_option maxRecDepth 100000 in
theorem emendationref01_Fold.calls (k : Nat) (a0 : ByteArray) (r : ByteArray) (w : World) (h : emendationref01_Fold.f k a0 = some r) :
    Calls Tryd.prog 19 #[.string a0] w fun e w' => e = .returned (.string r) ∧ Below w.heap.size w w' := by
  have HB := Aside0.mk (Below.refl w.heap.size w)
  have H : (emendationref01_Fold.l0 k a0 (⟨#[]⟩ : ByteArray) false 0) = some r := h
  clear h
  have H' := Aside0.mk H
  clear H
  go_enter Tryd.func19, Tryd.ntmps19
  go_wp2
  go_loopg [3, 4, 5] k (fun kq v3 v4 v5 w' => ∃ (x3_1 : ByteArray) (x4_1 : Bool) (x5_1 : Int), v3 = .string x3_1 ∧ v4 = .bool x4_1 ∧ v5 = .int .i64 x5_1 ∧ Aside0 (emendationref01_Fold.l0 kq a0 x3_1 x4_1 x5_1 = some r) ∧ Aside0 (kq ≤ k) ∧ Aside0 (Below w.heap.size w w'))
  case atStart => exact ⟨((⟨#[]⟩ : ByteArray)), (false), (0), (by first | rfl | (simp; done) | (simp [*]; done) | (simp [bne, beq_nil_E]; done)), (by first | rfl | (simp; done) | (simp [*]; done) | (simp [bne, beq_nil_E]; done)), (by first | rfl | (simp; done) | (simp [*]; done) | (simp [bne, beq_nil_E]; done)), H', ⟨Nat.le_refl _⟩, ⟨by repeat (first | (with_reducible first | exact HB.out | apply below_alloc | apply pw_below_drewN | apply below_drew1) | exact HB.out)⟩⟩
  case round =>
    clear H'
    try clear c1
    obtain ⟨x3_1, x4_1, x5_1, rfl, rfl, rfl, HA, HK1, HB⟩ := hrel
    cases gk with
    | zero => exact absurd HA.out (by simp [emendationref01_Fold.l0])
    | succ k1 =>
      have H := HA.out
      clear HA
      simp only [emendationref01_Fold.l0] at H
      by_cases c2 : x5_1 < (a0.size : Int)
      · rw [if_pos c2] at H
        have c2b0 : decide (x5_1 < (a0.size : Int)) = true := decide_eq_true c2
        clear c2
        by_cases c3 : 0 ≤ x5_1
        · rw [if_pos c3] at H
          have c3b0 : decide (0 ≤ x5_1) = true := decide_eq_true c3
          clear c3
          replace H := Option.bind_eq_some_iff.mp H
          obtain ⟨t165, A50, H⟩ := H
          replace H : (if t165 = true then (emendationref01_Fold.l0 k1 a0 x3_1 (x3_1.toList != ([] : List UInt8)) (wrap64 (x5_1 + 1))) else (if x4_1 = true then (if x3_1.size + 1 ≤ 9223372036854775807 then (if (bt a0 x5_1) ≥ 65 then (if (bt a0 x5_1) ≤ 90 then ((some (([((bt a0 x5_1) + 32) % 256] : List Int) : List Int)).bind fun y166 => (if (x3_1 ++ (⟨#[32]⟩ : ByteArray)).size + (strOfNums y166).size ≤ 9223372036854775807 then (emendationref01_Fold.l0 k1 a0 ((x3_1 ++ (⟨#[32]⟩ : ByteArray)) ++ (strOfNums y166)) false (wrap64 (x5_1 + 1))) else (none))) else ((some (([bt a0 x5_1] : List Int) : List Int)).bind fun y169 => (if (x3_1 ++ (⟨#[32]⟩ : ByteArray)).size + (strOfNums y169).size ≤ 9223372036854775807 then (emendationref01_Fold.l0 k1 a0 ((x3_1 ++ (⟨#[32]⟩ : ByteArray)) ++ (strOfNums y169)) false (wrap64 (x5_1 + 1))) else (none)))) else ((some (([bt a0 x5_1] : List Int) : List Int)).bind fun y172 => (if (x3_1 ++ (⟨#[32]⟩ : ByteArray)).size + (strOfNums y172).size ≤ 9223372036854775807 then (emendationref01_Fold.l0 k1 a0 ((x3_1 ++ (⟨#[32]⟩ : ByteArray)) ++ (strOfNums y172)) false (wrap64 (x5_1 + 1))) else (none)))) else (none)) else (if (bt a0 x5_1) ≥ 65 then (if (bt a0 x5_1) ≤ 90 then ((some (([((bt a0 x5_1) + 32) % 256] : List Int) : List Int)).bind fun y175 => (if x3_1.size + (strOfNums y175).size ≤ 9223372036854775807 then (emendationref01_Fold.l0 k1 a0 (x3_1 ++ (strOfNums y175)) x4_1 (wrap64 (x5_1 + 1))) else (none))) else ((some (([bt a0 x5_1] : List Int) : List Int)).bind fun y178 => (if x3_1.size + (strOfNums y178).size ≤ 9223372036854775807 then (emendationref01_Fold.l0 k1 a0 (x3_1 ++ (strOfNums y178)) x4_1 (wrap64 (x5_1 + 1))) else (none)))) else ((some (([bt a0 x5_1] : List Int) : List Int)).bind fun y181 => (if x3_1.size + (strOfNums y181).size ≤ 9223372036854775807 then (emendationref01_Fold.l0 k1 a0 (x3_1 ++ (strOfNums y181)) x4_1 (wrap64 (x5_1 + 1))) else (none)))))) = some r := H
          have A5 := Aside0.mk A50
          clear A50
          by_cases c6 : t165 = true
          · subst c6
            have H1 : (emendationref01_Fold.l0 k1 a0 x3_1 (x3_1.toList != ([] : List UInt8)) (wrap64 (x5_1 + 1))) = some r := by rw [if_pos rfl] at H; exact H
            clear H
            have H := H1
            clear H1
            have H' := Aside0.mk H
            clear H
            have p4 : 0 ≤ (x5_1 : Int) := of_decide_eq_true (by first | (with_reducible assumption) | assumption)
            have q4 : x5_1 < (a0.size : Int) := of_decide_eq_true (by first | (with_reducible assumption) | assumption)
            have hx4 := bt_at a0 x5_1
            replace p4 := eq_true p4
            replace q4 := eq_true q4
            go_wp2_with (first | ((with_reducible refine gate_callee (f := 27) rfl ?_); refine goesL_ (some 17) rfl rfl Tryd.func27 (by kernel_rfl) rfl #[.int .u8 (bt a0 x5_1)] rfl (by (try simp only [List.map_toArray, List.map_cons, List.map_nil]); first | done | rfl | (simp only [List.length_drop, List.length_take]; rfl)) ?_; (with_reducible refine (emendationref01_gap.calls (bt a0 x5_1) true _ A5.out).mono ?_); rintro e w' ⟨rfl, ⟨nd, rfl⟩⟩; refine ⟨_, rfl, ?_⟩))
            go_roundg k1
            case measure => have := HK1.out; omega
            case rel => exact ⟨(x3_1), ((x3_1.toList != ([] : List UInt8))), (wrap64 (x5_1 + 1)), (by first | rfl | (simp; done) | (simp [*]; done) | (simp [bne, beq_nil_E]; done)), (by first | rfl | (simp; done) | (simp [*]; done) | (simp [bne, beq_nil_E]; done)), (by first | rfl | (simp; done) | (simp [*]; done) | (simp [bne, beq_nil_E]; done)), H', ⟨by have := HK1.out; omega⟩, ⟨by repeat (first | (with_reducible first | exact HB.out | apply below_alloc | apply pw_below_drewN | apply below_drew1) | exact HB.out)⟩⟩
          · replace c6 := Bool.eq_false_iff.mpr c6
            subst c6
            have H1 : (if x4_1 = true then (if x3_1.size + 1 ≤ 9223372036854775807 then (if (bt a0 x5_1) ≥ 65 then (if (bt a0 x5_1) ≤ 90 then ((some (([((bt a0 x5_1) + 32) % 256] : List Int) : List Int)).bind fun y166 => (if (x3_1 ++ (⟨#[32]⟩ : ByteArray)).size + (strOfNums y166).size ≤ 9223372036854775807 then (emendationref01_Fold.l0 k1 a0 ((x3_1 ++ (⟨#[32]⟩ : ByteArray)) ++ (strOfNums y166)) false (wrap64 (x5_1 + 1))) else (none))) else ((some (([bt a0 x5_1] : List Int) : List Int)).bind fun y169 => (if (x3_1 ++ (⟨#[32]⟩ : ByteArray)).size + (strOfNums y169).size ≤ 9223372036854775807 then (emendationref01_Fold.l0 k1 a0 ((x3_1 ++ (⟨#[32]⟩ : ByteArray)) ++ (strOfNums y169)) false (wrap64 (x5_1 + 1))) else (none)))) else ((some (([bt a0 x5_1] : List Int) : List Int)).bind fun y172 => (if (x3_1 ++ (⟨#[32]⟩ : ByteArray)).size + (strOfNums y172).size ≤ 9223372036854775807 then (emendationref01_Fold.l0 k1 a0 ((x3_1 ++ (⟨#[32]⟩ : ByteArray)) ++ (strOfNums y172)) false (wrap64 (x5_1 + 1))) else (none)))) else (none)) else (if (bt a0 x5_1) ≥ 65 then (if (bt a0 x5_1) ≤ 90 then ((some (([((bt a0 x5_1) + 32) % 256] : List Int) : List Int)).bind fun y175 => (if x3_1.size + (strOfNums y175).size ≤ 9223372036854775807 then (emendationref01_Fold.l0 k1 a0 (x3_1 ++ (strOfNums y175)) x4_1 (wrap64 (x5_1 + 1))) else (none))) else ((some (([bt a0 x5_1] : List Int) : List Int)).bind fun y178 => (if x3_1.size + (strOfNums y178).size ≤ 9223372036854775807 then (emendationref01_Fold.l0 k1 a0 (x3_1 ++ (strOfNums y178)) x4_1 (wrap64 (x5_1 + 1))) else (none)))) else ((some (([bt a0 x5_1] : List Int) : List Int)).bind fun y181 => (if x3_1.size + (strOfNums y181).size ≤ 9223372036854775807 then (emendationref01_Fold.l0 k1 a0 (x3_1 ++ (strOfNums y181)) x4_1 (wrap64 (x5_1 + 1))) else (none))))) = some r := by rw [if_neg (show ¬ (false = true) by decide)] at H; exact H
            clear H
            have H := H1
            clear H1
            by_cases c7 : x4_1 = true
            · subst c7
              have H1 : (if x3_1.size + 1 ≤ 9223372036854775807 then (if (bt a0 x5_1) ≥ 65 then (if (bt a0 x5_1) ≤ 90 then ((some (([((bt a0 x5_1) + 32) % 256] : List Int) : List Int)).bind fun y166 => (if (x3_1 ++ (⟨#[32]⟩ : ByteArray)).size + (strOfNums y166).size ≤ 9223372036854775807 then (emendationref01_Fold.l0 k1 a0 ((x3_1 ++ (⟨#[32]⟩ : ByteArray)) ++ (strOfNums y166)) false (wrap64 (x5_1 + 1))) else (none))) else ((some (([bt a0 x5_1] : List Int) : List Int)).bind fun y169 => (if (x3_1 ++ (⟨#[32]⟩ : ByteArray)).size + (strOfNums y169).size ≤ 9223372036854775807 then (emendationref01_Fold.l0 k1 a0 ((x3_1 ++ (⟨#[32]⟩ : ByteArray)) ++ (strOfNums y169)) false (wrap64 (x5_1 + 1))) else (none)))) else ((some (([bt a0 x5_1] : List Int) : List Int)).bind fun y172 => (if (x3_1 ++ (⟨#[32]⟩ : ByteArray)).size + (strOfNums y172).size ≤ 9223372036854775807 then (emendationref01_Fold.l0 k1 a0 ((x3_1 ++ (⟨#[32]⟩ : ByteArray)) ++ (strOfNums y172)) false (wrap64 (x5_1 + 1))) else (none)))) else (none)) = some r := by rw [if_pos rfl] at H; exact H
              clear H
              have H := H1
              clear H1
              by_cases c8 : x3_1.size + 1 ≤ 9223372036854775807
              · rw [if_pos c8] at H
                have c8b0 := eq_true c8
                have c8b1 : decide (x3_1.size + 1 ≤ 9223372036854775807) = true := decide_eq_true c8
                try have c8b2 : (9223372036854775807 < x3_1.size + 1) = False := eq_false (Nat.not_lt.2 c8)
                by_cases c9 : (bt a0 x5_1) ≥ 65
                · rw [if_pos c9] at H
                  have c9b0 : decide (65 ≤ (bt a0 x5_1)) = true := decide_eq_true c9
                  clear c9
                  by_cases c10 : (bt a0 x5_1) ≤ 90
                  · rw [if_pos c10] at H
                    have c10b0 : decide ((bt a0 x5_1) ≤ 90) = true := decide_eq_true c10
                    clear c10
                    obtain ⟨y166, hy166⟩ : ∃ y_ : List Int, y_ = (([((bt a0 x5_1) + 32) % 256] : List Int)) := ⟨_, rfl⟩
                    replace H : (if (x3_1 ++ (⟨#[32]⟩ : ByteArray)).size + (strOfNums y166).size ≤ 9223372036854775807 then (emendationref01_Fold.l0 k1 a0 ((x3_1 ++ (⟨#[32]⟩ : ByteArray)) ++ (strOfNums y166)) false (wrap64 (x5_1 + 1))) else (none)) = some r := by first | (rw [hy166]; with_reducible exact H) | (have H2_ := (Option.bind_some _ _).symm.trans H; rw [hy166]; with_reducible exact H2_) | (have H2_ := (Option.bind_some _ _).symm.trans H; with_reducible exact H2_) | with_reducible exact H | (rw [hy166]; exact H) | exact H
                    have Ny166 := Aside0.mk hy166
                    clear hy166
                    by_cases c11 : (x3_1 ++ (⟨#[32]⟩ : ByteArray)).size + (strOfNums y166).size ≤ 9223372036854775807
                    · rw [if_pos c11] at H
                      have c11b0 := eq_true c11
                      have c11b1 : decide ((x3_1 ++ (⟨#[32]⟩ : ByteArray)).size + (strOfNums y166).size ≤ 9223372036854775807) = true := decide_eq_true c11
                      try have c11b2 : (9223372036854775807 < (x3_1 ++ (⟨#[32]⟩ : ByteArray)).size + (strOfNums y166).size) = False := eq_false (Nat.not_lt.2 c11)
                      (try (have c11s := c11; simp only [ByteArray.size_append] at c11s; have c11s0 := eq_true c11s; have c11s1 := decide_eq_true c11s; have c11s2 := eq_false (Nat.not_lt.2 c11s); clear c11s))
                      have H' := Aside0.mk H
                      clear H
                      have p4 : 0 ≤ (x5_1 : Int) := of_decide_eq_true (by first | (with_reducible assumption) | assumption)
                      have q4 : x5_1 < (a0.size : Int) := of_decide_eq_true (by first | (with_reducible assumption) | assumption)
                      have hx4 := bt_at a0 x5_1
                      replace p4 := eq_true p4
                      replace q4 := eq_true q4
                      go_wp2_with (first | ((with_reducible refine gate_callee (f := 27) rfl ?_); refine goesL_ (some 17) rfl rfl Tryd.func27 (by kernel_rfl) rfl #[.int .u8 (bt a0 x5_1)] rfl (by (try simp only [List.map_toArray, List.map_cons, List.map_nil]); first | done | rfl | (simp only [List.length_drop, List.length_take]; rfl)) ?_; (with_reducible refine (emendationref01_gap.calls (bt a0 x5_1) false _ A5.out).mono ?_); rintro e w' ⟨rfl, ⟨nd, rfl⟩⟩; refine ⟨_, rfl, ?_⟩) | ((with_reducible refine gate_dst (N := 33) rfl ?_); refine Kd.R_lit (Kd.int .u8) _ 5 ?hg (N := 33) ?hd (xs := ([((bt a0 x5_1) + 32) % 256] : List Int)) (inner := [.int .u8 (((bt a0 x5_1) + 32) % 256)]) (ok := fun _ => True) (okp := fun _ => True) ?hr ?hp (fun _ hk => hk) trivial (Below.refl _ _) (Nat.le_refl _) (by simp) ?_; (case hd => rfl); (case hg => rfl); (case hr => first | (go_simp; done) | (go_simp; rfl)); (case hp => exact (Reps.one (show Kd.M (Kd.int .u8) _ _ _ (((bt a0 x5_1) + 32) % 256) [.int .u8 (((bt a0 x5_1) + 32) % 256)] from rfl) (Reps.none _ _))); intro v167 w12 ho13 hb hg_ hnew_; clear hg_ hnew_; (first | rw [← Ny166.out] at ho13 | (simp only [Int.reduceToNat] at ho13; rw [← Ny166.out] at ho13)); have n0_ := Aside0.mk (Kd.R_lower ho13 (below_size (by repeat (first | (with_reducible first | exact HB.out | apply below_alloc | apply pw_below_drewN | apply below_drew1) | exact HB.out)))); have n1_ := Aside0.mk (below_step (by repeat (first | (with_reducible first | exact HB.out | apply below_alloc | apply pw_below_drewN | apply below_drew1) | exact HB.out)) hb); clear HB; have HO168 := n0_; have HB := n1_; clear n0_ n1_; clear hb ho13; have hcv14 := own_string (P := Tryd.prog) Tryd.underlying25 Tryd.underlying5 Tryd.underlying9 (Kd.own_of_R HO168.out)))
                      go_roundg k1
                      case measure => have := HK1.out; omega
                      case rel => exact ⟨((x3_1 ++ (⟨#[32]⟩ : ByteArray)) ++ (strOfNums y166)), (false), (wrap64 (x5_1 + 1)), (by first | rfl | (simp; done) | (simp [*]; done) | (simp [bne, beq_nil_E]; done)), (by first | rfl | (simp; done) | (simp [*]; done) | (simp [bne, beq_nil_E]; done)), (by first | rfl | (simp; done) | (simp [*]; done) | (simp [bne, beq_nil_E]; done)), H', ⟨by have := HK1.out; omega⟩, ⟨by repeat (first | (with_reducible first | exact HB.out | apply below_alloc | apply pw_below_drewN | apply below_drew1) | exact HB.out)⟩⟩
                    · rw [if_neg c11] at H
                      exact absurd H (by simp)
                  · rw [if_neg c10] at H
                    have c10b0 : decide ((bt a0 x5_1) ≤ 90) = false := decide_eq_false c10
                    clear c10
                    obtain ⟨y169, hy169⟩ : ∃ y_ : List Int, y_ = (([bt a0 x5_1] : List Int)) := ⟨_, rfl⟩
                    replace H : (if (x3_1 ++ (⟨#[32]⟩ : ByteArray)).size + (strOfNums y169).size ≤ 9223372036854775807 then (emendationref01_Fold.l0 k1 a0 ((x3_1 ++ (⟨#[32]⟩ : ByteArray)) ++ (strOfNums y169)) false (wrap64 (x5_1 + 1))) else (none)) = some r := by first | (rw [hy169]; with_reducible exact H) | (have H2_ := (Option.bind_some _ _).symm.trans H; rw [hy169]; with_reducible exact H2_) | (have H2_ := (Option.bind_some _ _).symm.trans H; with_reducible exact H2_) | with_reducible exact H | (rw [hy169]; exact H) | exact H
                    have Ny169 := Aside0.mk hy169
                    clear hy169
                    by_cases c15 : (x3_1 ++ (⟨#[32]⟩ : ByteArray)).size + (strOfNums y169).size ≤ 9223372036854775807
                    · rw [if_pos c15] at H
                      have c15b0 := eq_true c15
                      have c15b1 : decide ((x3_1 ++ (⟨#[32]⟩ : ByteArray)).size + (strOfNums y169).size ≤ 9223372036854775807) = true := decide_eq_true c15
                      try have c15b2 : (9223372036854775807 < (x3_1 ++ (⟨#[32]⟩ : ByteArray)).size + (strOfNums y169).size) = False := eq_false (Nat.not_lt.2 c15)
                      (try (have c15s := c15; simp only [ByteArray.size_append] at c15s; have c15s0 := eq_true c15s; have c15s1 := decide_eq_true c15s; have c15s2 := eq_false (Nat.not_lt.2 c15s); clear c15s))
                      have H' := Aside0.mk H
                      clear H
                      have p4 : 0 ≤ (x5_1 : Int) := of_decide_eq_true (by first | (with_reducible assumption) | assumption)
                      have q4 : x5_1 < (a0.size : Int) := of_decide_eq_true (by first | (with_reducible assumption) | assumption)
                      have hx4 := bt_at a0 x5_1
                      replace p4 := eq_true p4
                      replace q4 := eq_true q4
                      go_wp2_with (first | ((with_reducible refine gate_callee (f := 27) rfl ?_); refine goesL_ (some 17) rfl rfl Tryd.func27 (by kernel_rfl) rfl #[.int .u8 (bt a0 x5_1)] rfl (by (try simp only [List.map_toArray, List.map_cons, List.map_nil]); first | done | rfl | (simp only [List.length_drop, List.length_take]; rfl)) ?_; (with_reducible refine (emendationref01_gap.calls (bt a0 x5_1) false _ A5.out).mono ?_); rintro e w' ⟨rfl, ⟨nd, rfl⟩⟩; refine ⟨_, rfl, ?_⟩) | ((with_reducible refine gate_dst (N := 33) rfl ?_); refine Kd.R_lit (Kd.int .u8) _ 5 ?hg (N := 33) ?hd (xs := ([bt a0 x5_1] : List Int)) (inner := [.int .u8 (bt a0 x5_1)]) (ok := fun _ => True) (okp := fun _ => True) ?hr ?hp (fun _ hk => hk) trivial (Below.refl _ _) (Nat.le_refl _) (by simp) ?_; (case hd => rfl); (case hg => rfl); (case hr => first | (go_simp; done) | (go_simp; rfl)); (case hp => exact (Reps.one (show Kd.M (Kd.int .u8) _ _ _ (bt a0 x5_1) [.int .u8 (bt a0 x5_1)] from rfl) (Reps.none _ _))); intro v170 w16 ho17 hb hg_ hnew_; clear hg_ hnew_; (first | rw [← Ny169.out] at ho17 | (simp only [Int.reduceToNat] at ho17; rw [← Ny169.out] at ho17)); have n0_ := Aside0.mk (Kd.R_lower ho17 (below_size (by repeat (first | (with_reducible first | exact HB.out | apply below_alloc | apply pw_below_drewN | apply below_drew1) | exact HB.out)))); have n1_ := Aside0.mk (below_step (by repeat (first | (with_reducible first | exact HB.out | apply below_alloc | apply pw_below_drewN | apply below_drew1) | exact HB.out)) hb); clear HB; have HO171 := n0_; have HB := n1_; clear n0_ n1_; clear hb ho17; have hcv18 := own_string (P := Tryd.prog) Tryd.underlying25 Tryd.underlying5 Tryd.underlying9 (Kd.own_of_R HO171.out)))
                      go_roundg k1
                      case measure => have := HK1.out; omega
                      case rel => exact ⟨((x3_1 ++ (⟨#[32]⟩ : ByteArray)) ++ (strOfNums y169)), (false), (wrap64 (x5_1 + 1)), (by first | rfl | (simp; done) | (simp [*]; done) | (simp [bne, beq_nil_E]; done)), (by first | rfl | (simp; done) | (simp [*]; done) | (simp [bne, beq_nil_E]; done)), (by first | rfl | (simp; done) | (simp [*]; done) | (simp [bne, beq_nil_E]; done)), H', ⟨by have := HK1.out; omega⟩, ⟨by repeat (first | (with_reducible first | exact HB.out | apply below_alloc | apply pw_below_drewN | apply below_drew1) | exact HB.out)⟩⟩
                    · rw [if_neg c15] at H
                      exact absurd H (by simp)
                · rw [if_neg c9] at H
                  have c9b0 : decide (65 ≤ (bt a0 x5_1)) = false := decide_eq_false c9
                  clear c9
                  obtain ⟨y172, hy172⟩ : ∃ y_ : List Int, y_ = (([bt a0 x5_1] : List Int)) := ⟨_, rfl⟩
                  replace H : (if (x3_1 ++ (⟨#[32]⟩ : ByteArray)).size + (strOfNums y172).size ≤ 9223372036854775807 then (emendationref01_Fold.l0 k1 a0 ((x3_1 ++ (⟨#[32]⟩ : ByteArray)) ++ (strOfNums y172)) false (wrap64 (x5_1 + 1))) else (none)) = some r := by first | (rw [hy172]; with_reducible exact H) | (have H2_ := (Option.bind_some _ _).symm.trans H; rw [hy172]; with_reducible exact H2_) | (have H2_ := (Option.bind_some _ _).symm.trans H; with_reducible exact H2_) | with_reducible exact H | (rw [hy172]; exact H) | exact H
                  have Ny172 := Aside0.mk hy172
                  clear hy172
                  by_cases c19 : (x3_1 ++ (⟨#[32]⟩ : ByteArray)).size + (strOfNums y172).size ≤ 9223372036854775807
                  · rw [if_pos c19] at H
                    have c19b0 := eq_true c19
                    have c19b1 : decide ((x3_1 ++ (⟨#[32]⟩ : ByteArray)).size + (strOfNums y172).size ≤ 9223372036854775807) = true := decide_eq_true c19
                    try have c19b2 : (9223372036854775807 < (x3_1 ++ (⟨#[32]⟩ : ByteArray)).size + (strOfNums y172).size) = False := eq_false (Nat.not_lt.2 c19)
                    (try (have c19s := c19; simp only [ByteArray.size_append] at c19s; have c19s0 := eq_true c19s; have c19s1 := decide_eq_true c19s; have c19s2 := eq_false (Nat.not_lt.2 c19s); clear c19s))
                    have H' := Aside0.mk H
                    clear H
                    have p4 : 0 ≤ (x5_1 : Int) := of_decide_eq_true (by first | (with_reducible assumption) | assumption)
                    have q4 : x5_1 < (a0.size : Int) := of_decide_eq_true (by first | (with_reducible assumption) | assumption)
                    have hx4 := bt_at a0 x5_1
                    replace p4 := eq_true p4
                    replace q4 := eq_true q4
                    go_wp2_with (first | ((with_reducible refine gate_callee (f := 27) rfl ?_); refine goesL_ (some 17) rfl rfl Tryd.func27 (by kernel_rfl) rfl #[.int .u8 (bt a0 x5_1)] rfl (by (try simp only [List.map_toArray, List.map_cons, List.map_nil]); first | done | rfl | (simp only [List.length_drop, List.length_take]; rfl)) ?_; (with_reducible refine (emendationref01_gap.calls (bt a0 x5_1) false _ A5.out).mono ?_); rintro e w' ⟨rfl, ⟨nd, rfl⟩⟩; refine ⟨_, rfl, ?_⟩) | ((with_reducible refine gate_dst (N := 33) rfl ?_); refine Kd.R_lit (Kd.int .u8) _ 5 ?hg (N := 33) ?hd (xs := ([bt a0 x5_1] : List Int)) (inner := [.int .u8 (bt a0 x5_1)]) (ok := fun _ => True) (okp := fun _ => True) ?hr ?hp (fun _ hk => hk) trivial (Below.refl _ _) (Nat.le_refl _) (by simp) ?_; (case hd => rfl); (case hg => rfl); (case hr => first | (go_simp; done) | (go_simp; rfl)); (case hp => exact (Reps.one (show Kd.M (Kd.int .u8) _ _ _ (bt a0 x5_1) [.int .u8 (bt a0 x5_1)] from rfl) (Reps.none _ _))); intro v173 w20 ho21 hb hg_ hnew_; clear hg_ hnew_; (first | rw [← Ny172.out] at ho21 | (simp only [Int.reduceToNat] at ho21; rw [← Ny172.out] at ho21)); have n0_ := Aside0.mk (Kd.R_lower ho21 (below_size (by repeat (first | (with_reducible first | exact HB.out | apply below_alloc | apply pw_below_drewN | apply below_drew1) | exact HB.out)))); have n1_ := Aside0.mk (below_step (by repeat (first | (with_reducible first | exact HB.out | apply below_alloc | apply pw_below_drewN | apply below_drew1) | exact HB.out)) hb); clear HB; have HO174 := n0_; have HB := n1_; clear n0_ n1_; clear hb ho21; have hcv22 := own_string (P := Tryd.prog) Tryd.underlying25 Tryd.underlying5 Tryd.underlying9 (Kd.own_of_R HO174.out)))
                    go_roundg k1
                    case measure => have := HK1.out; omega
                    case rel => exact ⟨((x3_1 ++ (⟨#[32]⟩ : ByteArray)) ++ (strOfNums y172)), (false), (wrap64 (x5_1 + 1)), (by first | rfl | (simp; done) | (simp [*]; done) | (simp [bne, beq_nil_E]; done)), (by first | rfl | (simp; done) | (simp [*]; done) | (simp [bne, beq_nil_E]; done)), (by first | rfl | (simp; done) | (simp [*]; done) | (simp [bne, beq_nil_E]; done)), H', ⟨by have := HK1.out; omega⟩, ⟨by repeat (first | (with_reducible first | exact HB.out | apply below_alloc | apply pw_below_drewN | apply below_drew1) | exact HB.out)⟩⟩
                  · rw [if_neg c19] at H
                    exact absurd H (by simp)
              · rw [if_neg c8] at H
                exact absurd H (by simp)
            · replace c7 := Bool.eq_false_iff.mpr c7
              subst c7
              have H1 : (if (bt a0 x5_1) ≥ 65 then (if (bt a0 x5_1) ≤ 90 then ((some (([((bt a0 x5_1) + 32) % 256] : List Int) : List Int)).bind fun y175 => (if x3_1.size + (strOfNums y175).size ≤ 9223372036854775807 then (emendationref01_Fold.l0 k1 a0 (x3_1 ++ (strOfNums y175)) false (wrap64 (x5_1 + 1))) else (none))) else ((some (([bt a0 x5_1] : List Int) : List Int)).bind fun y178 => (if x3_1.size + (strOfNums y178).size ≤ 9223372036854775807 then (emendationref01_Fold.l0 k1 a0 (x3_1 ++ (strOfNums y178)) false (wrap64 (x5_1 + 1))) else (none)))) else ((some (([bt a0 x5_1] : List Int) : List Int)).bind fun y181 => (if x3_1.size + (strOfNums y181).size ≤ 9223372036854775807 then (emendationref01_Fold.l0 k1 a0 (x3_1 ++ (strOfNums y181)) false (wrap64 (x5_1 + 1))) else (none)))) = some r := by rw [if_neg (show ¬ (false = true) by decide)] at H; exact H
              clear H
              have H := H1
              clear H1
              by_cases c23 : (bt a0 x5_1) ≥ 65
              · rw [if_pos c23] at H
                have c23b0 : decide (65 ≤ (bt a0 x5_1)) = true := decide_eq_true c23
                clear c23
                by_cases c24 : (bt a0 x5_1) ≤ 90
                · rw [if_pos c24] at H
                  have c24b0 : decide ((bt a0 x5_1) ≤ 90) = true := decide_eq_true c24
                  clear c24
                  obtain ⟨y175, hy175⟩ : ∃ y_ : List Int, y_ = (([((bt a0 x5_1) + 32) % 256] : List Int)) := ⟨_, rfl⟩
                  replace H : (if x3_1.size + (strOfNums y175).size ≤ 9223372036854775807 then (emendationref01_Fold.l0 k1 a0 (x3_1 ++ (strOfNums y175)) false (wrap64 (x5_1 + 1))) else (none)) = some r := by first | (rw [hy175]; with_reducible exact H) | (have H2_ := (Option.bind_some _ _).symm.trans H; rw [hy175]; with_reducible exact H2_) | (have H2_ := (Option.bind_some _ _).symm.trans H; with_reducible exact H2_) | with_reducible exact H | (rw [hy175]; exact H) | exact H
                  have Ny175 := Aside0.mk hy175
                  clear hy175
                  by_cases c25 : x3_1.size + (strOfNums y175).size ≤ 9223372036854775807
                  · rw [if_pos c25] at H
                    have c25b0 := eq_true c25
                    have c25b1 : decide (x3_1.size + (strOfNums y175).size ≤ 9223372036854775807) = true := decide_eq_true c25
                    try have c25b2 : (9223372036854775807 < x3_1.size + (strOfNums y175).size) = False := eq_false (Nat.not_lt.2 c25)
                    have H' := Aside0.mk H
                    clear H
                    have p4 : 0 ≤ (x5_1 : Int) := of_decide_eq_true (by first | (with_reducible assumption) | assumption)
                    have q4 : x5_1 < (a0.size : Int) := of_decide_eq_true (by first | (with_reducible assumption) | assumption)
                    have hx4 := bt_at a0 x5_1
                    replace p4 := eq_true p4
                    replace q4 := eq_true q4
                    go_wp2_with (first | ((with_reducible refine gate_callee (f := 27) rfl ?_); refine goesL_ (some 17) rfl rfl Tryd.func27 (by kernel_rfl) rfl #[.int .u8 (bt a0 x5_1)] rfl (by (try simp only [List.map_toArray, List.map_cons, List.map_nil]); first | done | rfl | (simp only [List.length_drop, List.length_take]; rfl)) ?_; (with_reducible refine (emendationref01_gap.calls (bt a0 x5_1) false _ A5.out).mono ?_); rintro e w' ⟨rfl, ⟨nd, rfl⟩⟩; refine ⟨_, rfl, ?_⟩) | ((with_reducible refine gate_dst (N := 33) rfl ?_); refine Kd.R_lit (Kd.int .u8) _ 5 ?hg (N := 33) ?hd (xs := ([((bt a0 x5_1) + 32) % 256] : List Int)) (inner := [.int .u8 (((bt a0 x5_1) + 32) % 256)]) (ok := fun _ => True) (okp := fun _ => True) ?hr ?hp (fun _ hk => hk) trivial (Below.refl _ _) (Nat.le_refl _) (by simp) ?_; (case hd => rfl); (case hg => rfl); (case hr => first | (go_simp; done) | (go_simp; rfl)); (case hp => exact (Reps.one (show Kd.M (Kd.int .u8) _ _ _ (((bt a0 x5_1) + 32) % 256) [.int .u8 (((bt a0 x5_1) + 32) % 256)] from rfl) (Reps.none _ _))); intro v176 w26 ho27 hb hg_ hnew_; clear hg_ hnew_; (first | rw [← Ny175.out] at ho27 | (simp only [Int.reduceToNat] at ho27; rw [← Ny175.out] at ho27)); have n0_ := Aside0.mk (Kd.R_lower ho27 (below_size (by repeat (first | (with_reducible first | exact HB.out | apply below_alloc | apply pw_below_drewN | apply below_drew1) | exact HB.out)))); have n1_ := Aside0.mk (below_step (by repeat (first | (with_reducible first | exact HB.out | apply below_alloc | apply pw_below_drewN | apply below_drew1) | exact HB.out)) hb); clear HB; have HO177 := n0_; have HB := n1_; clear n0_ n1_; clear hb ho27; have hcv28 := own_string (P := Tryd.prog) Tryd.underlying25 Tryd.underlying5 Tryd.underlying9 (Kd.own_of_R HO177.out)))
                    go_roundg k1
                    case measure => have := HK1.out; omega
                    case rel => exact ⟨(x3_1 ++ (strOfNums y175)), (false), (wrap64 (x5_1 + 1)), (by first | rfl | (simp; done) | (simp [*]; done) | (simp [bne, beq_nil_E]; done)), (by first | rfl | (simp; done) | (simp [*]; done) | (simp [bne, beq_nil_E]; done)), (by first | rfl | (simp; done) | (simp [*]; done) | (simp [bne, beq_nil_E]; done)), H', ⟨by have := HK1.out; omega⟩, ⟨by repeat (first | (with_reducible first | exact HB.out | apply below_alloc | apply pw_below_drewN | apply below_drew1) | exact HB.out)⟩⟩
                  · rw [if_neg c25] at H
                    exact absurd H (by simp)
                · rw [if_neg c24] at H
                  have c24b0 : decide ((bt a0 x5_1) ≤ 90) = false := decide_eq_false c24
                  clear c24
                  obtain ⟨y178, hy178⟩ : ∃ y_ : List Int, y_ = (([bt a0 x5_1] : List Int)) := ⟨_, rfl⟩
                  replace H : (if x3_1.size + (strOfNums y178).size ≤ 9223372036854775807 then (emendationref01_Fold.l0 k1 a0 (x3_1 ++ (strOfNums y178)) false (wrap64 (x5_1 + 1))) else (none)) = some r := by first | (rw [hy178]; with_reducible exact H) | (have H2_ := (Option.bind_some _ _).symm.trans H; rw [hy178]; with_reducible exact H2_) | (have H2_ := (Option.bind_some _ _).symm.trans H; with_reducible exact H2_) | with_reducible exact H | (rw [hy178]; exact H) | exact H
                  have Ny178 := Aside0.mk hy178
                  clear hy178
                  by_cases c29 : x3_1.size + (strOfNums y178).size ≤ 9223372036854775807
                  · rw [if_pos c29] at H
                    have c29b0 := eq_true c29
                    have c29b1 : decide (x3_1.size + (strOfNums y178).size ≤ 9223372036854775807) = true := decide_eq_true c29
                    try have c29b2 : (9223372036854775807 < x3_1.size + (strOfNums y178).size) = False := eq_false (Nat.not_lt.2 c29)
                    have H' := Aside0.mk H
                    clear H
                    have p4 : 0 ≤ (x5_1 : Int) := of_decide_eq_true (by first | (with_reducible assumption) | assumption)
                    have q4 : x5_1 < (a0.size : Int) := of_decide_eq_true (by first | (with_reducible assumption) | assumption)
                    have hx4 := bt_at a0 x5_1
                    replace p4 := eq_true p4
                    replace q4 := eq_true q4
                    go_wp2_with (first | ((with_reducible refine gate_callee (f := 27) rfl ?_); refine goesL_ (some 17) rfl rfl Tryd.func27 (by kernel_rfl) rfl #[.int .u8 (bt a0 x5_1)] rfl (by (try simp only [List.map_toArray, List.map_cons, List.map_nil]); first | done | rfl | (simp only [List.length_drop, List.length_take]; rfl)) ?_; (with_reducible refine (emendationref01_gap.calls (bt a0 x5_1) false _ A5.out).mono ?_); rintro e w' ⟨rfl, ⟨nd, rfl⟩⟩; refine ⟨_, rfl, ?_⟩) | ((with_reducible refine gate_dst (N := 33) rfl ?_); refine Kd.R_lit (Kd.int .u8) _ 5 ?hg (N := 33) ?hd (xs := ([bt a0 x5_1] : List Int)) (inner := [.int .u8 (bt a0 x5_1)]) (ok := fun _ => True) (okp := fun _ => True) ?hr ?hp (fun _ hk => hk) trivial (Below.refl _ _) (Nat.le_refl _) (by simp) ?_; (case hd => rfl); (case hg => rfl); (case hr => first | (go_simp; done) | (go_simp; rfl)); (case hp => exact (Reps.one (show Kd.M (Kd.int .u8) _ _ _ (bt a0 x5_1) [.int .u8 (bt a0 x5_1)] from rfl) (Reps.none _ _))); intro v179 w30 ho31 hb hg_ hnew_; clear hg_ hnew_; (first | rw [← Ny178.out] at ho31 | (simp only [Int.reduceToNat] at ho31; rw [← Ny178.out] at ho31)); have n0_ := Aside0.mk (Kd.R_lower ho31 (below_size (by repeat (first | (with_reducible first | exact HB.out | apply below_alloc | apply pw_below_drewN | apply below_drew1) | exact HB.out)))); have n1_ := Aside0.mk (below_step (by repeat (first | (with_reducible first | exact HB.out | apply below_alloc | apply pw_below_drewN | apply below_drew1) | exact HB.out)) hb); clear HB; have HO180 := n0_; have HB := n1_; clear n0_ n1_; clear hb ho31; have hcv32 := own_string (P := Tryd.prog) Tryd.underlying25 Tryd.underlying5 Tryd.underlying9 (Kd.own_of_R HO180.out)))
                    go_roundg k1
                    case measure => have := HK1.out; omega
                    case rel => exact ⟨(x3_1 ++ (strOfNums y178)), (false), (wrap64 (x5_1 + 1)), (by first | rfl | (simp; done) | (simp [*]; done) | (simp [bne, beq_nil_E]; done)), (by first | rfl | (simp; done) | (simp [*]; done) | (simp [bne, beq_nil_E]; done)), (by first | rfl | (simp; done) | (simp [*]; done) | (simp [bne, beq_nil_E]; done)), H', ⟨by have := HK1.out; omega⟩, ⟨by repeat (first | (with_reducible first | exact HB.out | apply below_alloc | apply pw_below_drewN | apply below_drew1) | exact HB.out)⟩⟩
                  · rw [if_neg c29] at H
                    exact absurd H (by simp)
              · rw [if_neg c23] at H
                have c23b0 : decide (65 ≤ (bt a0 x5_1)) = false := decide_eq_false c23
                clear c23
                obtain ⟨y181, hy181⟩ : ∃ y_ : List Int, y_ = (([bt a0 x5_1] : List Int)) := ⟨_, rfl⟩
                replace H : (if x3_1.size + (strOfNums y181).size ≤ 9223372036854775807 then (emendationref01_Fold.l0 k1 a0 (x3_1 ++ (strOfNums y181)) false (wrap64 (x5_1 + 1))) else (none)) = some r := by first | (rw [hy181]; with_reducible exact H) | (have H2_ := (Option.bind_some _ _).symm.trans H; rw [hy181]; with_reducible exact H2_) | (have H2_ := (Option.bind_some _ _).symm.trans H; with_reducible exact H2_) | with_reducible exact H | (rw [hy181]; exact H) | exact H
                have Ny181 := Aside0.mk hy181
                clear hy181
                by_cases c33 : x3_1.size + (strOfNums y181).size ≤ 9223372036854775807
                · rw [if_pos c33] at H
                  have c33b0 := eq_true c33
                  have c33b1 : decide (x3_1.size + (strOfNums y181).size ≤ 9223372036854775807) = true := decide_eq_true c33
                  try have c33b2 : (9223372036854775807 < x3_1.size + (strOfNums y181).size) = False := eq_false (Nat.not_lt.2 c33)
                  have H' := Aside0.mk H
                  clear H
                  have p4 : 0 ≤ (x5_1 : Int) := of_decide_eq_true (by first | (with_reducible assumption) | assumption)
                  have q4 : x5_1 < (a0.size : Int) := of_decide_eq_true (by first | (with_reducible assumption) | assumption)
                  have hx4 := bt_at a0 x5_1
                  replace p4 := eq_true p4
                  replace q4 := eq_true q4
                  go_wp2_with (first | ((with_reducible refine gate_callee (f := 27) rfl ?_); refine goesL_ (some 17) rfl rfl Tryd.func27 (by kernel_rfl) rfl #[.int .u8 (bt a0 x5_1)] rfl (by (try simp only [List.map_toArray, List.map_cons, List.map_nil]); first | done | rfl | (simp only [List.length_drop, List.length_take]; rfl)) ?_; (with_reducible refine (emendationref01_gap.calls (bt a0 x5_1) false _ A5.out).mono ?_); rintro e w' ⟨rfl, ⟨nd, rfl⟩⟩; refine ⟨_, rfl, ?_⟩) | ((with_reducible refine gate_dst (N := 33) rfl ?_); refine Kd.R_lit (Kd.int .u8) _ 5 ?hg (N := 33) ?hd (xs := ([bt a0 x5_1] : List Int)) (inner := [.int .u8 (bt a0 x5_1)]) (ok := fun _ => True) (okp := fun _ => True) ?hr ?hp (fun _ hk => hk) trivial (Below.refl _ _) (Nat.le_refl _) (by simp) ?_; (case hd => rfl); (case hg => rfl); (case hr => first | (go_simp; done) | (go_simp; rfl)); (case hp => exact (Reps.one (show Kd.M (Kd.int .u8) _ _ _ (bt a0 x5_1) [.int .u8 (bt a0 x5_1)] from rfl) (Reps.none _ _))); intro v182 w34 ho35 hb hg_ hnew_; clear hg_ hnew_; (first | rw [← Ny181.out] at ho35 | (simp only [Int.reduceToNat] at ho35; rw [← Ny181.out] at ho35)); have n0_ := Aside0.mk (Kd.R_lower ho35 (below_size (by repeat (first | (with_reducible first | exact HB.out | apply below_alloc | apply pw_below_drewN | apply below_drew1) | exact HB.out)))); have n1_ := Aside0.mk (below_step (by repeat (first | (with_reducible first | exact HB.out | apply below_alloc | apply pw_below_drewN | apply below_drew1) | exact HB.out)) hb); clear HB; have HO183 := n0_; have HB := n1_; clear n0_ n1_; clear hb ho35; have hcv36 := own_string (P := Tryd.prog) Tryd.underlying25 Tryd.underlying5 Tryd.underlying9 (Kd.own_of_R HO183.out)))
                  go_roundg k1
                  case measure => have := HK1.out; omega
                  case rel => exact ⟨(x3_1 ++ (strOfNums y181)), (false), (wrap64 (x5_1 + 1)), (by first | rfl | (simp; done) | (simp [*]; done) | (simp [bne, beq_nil_E]; done)), (by first | rfl | (simp; done) | (simp [*]; done) | (simp [bne, beq_nil_E]; done)), (by first | rfl | (simp; done) | (simp [*]; done) | (simp [bne, beq_nil_E]; done)), H', ⟨by have := HK1.out; omega⟩, ⟨by repeat (first | (with_reducible first | exact HB.out | apply below_alloc | apply pw_below_drewN | apply below_drew1) | exact HB.out)⟩⟩
                · rw [if_neg c33] at H
                  exact absurd H (by simp)
        · rw [if_neg c3] at H
          exact absurd H (by simp)
      · rw [if_neg c2] at H
        have c2b0 : decide (x5_1 < (a0.size : Int)) = false := decide_eq_false c2
        clear c2
        obtain rfl := Option.some.inj H
        go_wp2
        go_ret
        exact ⟨by first | rfl | (simp [errW_none, errW_some] <;> rfl) | (simp [*, errW_none, errW_some] <;> rfl), by repeat (first | (with_reducible first | exact HB.out | apply below_alloc | apply pw_below_drewN | apply below_drew1) | exact HB.out)⟩

end Go.Proofs.YtmamjecpjookoaaDoor.X
