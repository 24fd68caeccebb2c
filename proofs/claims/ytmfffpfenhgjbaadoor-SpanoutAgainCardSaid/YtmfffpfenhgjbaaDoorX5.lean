-- Written by a program of this session (wip/mkprint.py over the kit's print) out of the translation; Lean checks it.
import Derived.Test.YtmfffpfenhgjbaaDoorX0
namespace Go.Proofs.YtmfffpfenhgjbaaDoor.X
open Go.RowKit Go.Proofs.YtmfffpfenhgjbaaDoor.G Go.Proofs.YtmfffpfenhgjbaaDoorW.PrintWords Go.Proofs.YtmfffpfenhgjbaaDoorW.PrintLast Go.Proofs.YtmfffpfenhgjbaaDoorW.PrintMore
attribute [local go_sem] max2_int min2_int max_two min_two max_three min_three max_four min_four   -- for this text's walks alone
set_option linter.unusedVariables false
set_option linter.unusedSimpArgs false

/-! ### emendationref07_Dest: function 28 -/
mutual
def emendationref07_Dest.l0 : Nat → ByteArray → Int → Option (Bool)
 | 0, _, _ => none
 | k + 1, x0, x3 => if x3 < (x0.size : Int) then (if 0 ≤ x3 then (if (bt x0 x3) ≥ 97 then (if (bt x0 x3) ≤ 122 then (emendationref07_Dest.j1 k x0 x3 (bt x0 x3) true) else (if (bt x0 x3) ≥ 65 then (if (bt x0 x3) ≤ 90 then (emendationref07_Dest.j1 k x0 x3 (bt x0 x3) true) else (if (bt x0 x3) ≥ 48 then (emendationref07_Dest.j1 k x0 x3 (bt x0 x3) (decide ((bt x0 x3) ≤ 57))) else (emendationref07_Dest.j1 k x0 x3 (bt x0 x3) false))) else (if (bt x0 x3) ≥ 48 then (emendationref07_Dest.j1 k x0 x3 (bt x0 x3) (decide ((bt x0 x3) ≤ 57))) else (emendationref07_Dest.j1 k x0 x3 (bt x0 x3) false)))) else (if (bt x0 x3) ≥ 65 then (if (bt x0 x3) ≤ 90 then (emendationref07_Dest.j1 k x0 x3 (bt x0 x3) true) else (if (bt x0 x3) ≥ 48 then (emendationref07_Dest.j1 k x0 x3 (bt x0 x3) (decide ((bt x0 x3) ≤ 57))) else (emendationref07_Dest.j1 k x0 x3 (bt x0 x3) false))) else (if (bt x0 x3) ≥ 48 then (emendationref07_Dest.j1 k x0 x3 (bt x0 x3) (decide ((bt x0 x3) ≤ 57))) else (emendationref07_Dest.j1 k x0 x3 (bt x0 x3) false)))) else (none)) else (some (x0.toList != ([] : List UInt8)))
def emendationref07_Dest.j1 : Nat → ByteArray → Int → Int → Bool → Option (Bool)
 | 0, _, _, _, _ => none
 | k + 1, x0, x3, x4, x5 => emendationref07_Dest.l1 k x0 x3 x4 x5 (⟨#[46, 47, 95, 45, 35, 63, 38, 58, 37]⟩ : ByteArray) 0
def emendationref07_Dest.l1 : Nat → ByteArray → Int → Int → Bool → ByteArray → Int → Option (Bool)
 | 0, _, _, _, _, _, _ => none
 | k + 1, x0, x3, x4, x5, x6, x7 => if x7 < (x6.size : Int) then (if x5 = true then (emendationref07_Dest.l1 k x0 x3 x4 true x6 (wrap64 (x7 + 1))) else (if 0 ≤ x7 then (emendationref07_Dest.l1 k x0 x3 x4 (x4 == (bt x6 x7)) x6 (wrap64 (x7 + 1))) else (none))) else (if x5 = true then (emendationref07_Dest.l0 k x0 (wrap64 (x3 + 1))) else (some false))
end
def emendationref07_Dest.f (k : Nat) (a0 : ByteArray) : Option (Bool) := emendationref07_Dest.l0 k a0 0
set_option maxHeartbeats 8000000 in
set_option maxRecDepth 100000 in
theorem emendationref07_Dest.calls (k : Nat) (a0 : ByteArray) (r : Bool) (w : World) (h : emendationref07_Dest.f k a0 = some r) :
  Calls Tryd.prog 28 #[.string a0] w fun e w' => e = .returned (.bool r) ∧ Drawn0 w w' := by
 have H : (emendationref07_Dest.l0 k a0 0) = some r := h
 clear h
 have H' := Aside0.mk H
 clear H
 go_enter Tryd.func28, Tryd.ntmps28
 go_wp2
 go_loopg [3] k (fun kq v3 w' => ∃ (x3_1 : Int), v3 = .int .i64 x3_1 ∧ Aside0 (emendationref07_Dest.l0 kq a0 x3_1 = some r) ∧ Aside0 (kq ≤ k) ∧ Drawn0 w w')
 case atStart => exact ⟨(0), (by first | rfl | (simp; done) | (simp [*]; done) | (simp [bne, beq_nil_E]; done)), H', ⟨Nat.le_refl _⟩, by repeat (first | exact Drawn0.refl _ | apply Drawn0.step)⟩
 case round =>
  clear H'
  obtain ⟨x3_1, rfl, HA, HK1, ⟨m1, rfl⟩⟩ := hrel
  cases gk with
  | zero => exact absurd HA.out (by simp [emendationref07_Dest.l0])
  | succ k1 =>
   have H := HA.out
   clear HA
   simp only [emendationref07_Dest.l0] at H
   by_cases c2 : x3_1 < (a0.size : Int)
   ·
    rw [if_pos c2] at H
    have c2b0 : decide (x3_1 < (a0.size : Int)) = true := decide_eq_true c2
    clear c2
    by_cases c3 : 0 ≤ x3_1
    ·
     rw [if_pos c3] at H
     have c3b0 : decide (0 ≤ x3_1) = true := decide_eq_true c3
     clear c3
     have HC5 := Aside0.mk H
     clear H
     have p4 : 0 ≤ (x3_1 : Int) := of_decide_eq_true (by first | (with_reducible assumption) | assumption)
     have q4 : x3_1 < (a0.size : Int) := of_decide_eq_true (by first | (with_reducible assumption) | assumption)
     have hx4 := bt_at a0 x3_1
     replace p4 := eq_true p4
     replace q4 := eq_true q4
     go_upto_region 5 with (fail)
     go_cut [5] (fun v5 wc => ∃ (kq : Nat) (x5_4 : Bool), v5 = .bool x5_4 ∧ Aside0 (emendationref07_Dest.j1 kq a0 x3_1 (bt a0 x3_1) x5_4 = some r) ∧ Aside0 (kq ≤ k1) ∧ Drawn0 w wc)
     case first =>
      have H := HC5.out
      clear HC5
      by_cases c6 : (bt a0 x3_1) ≥ 97
      ·
       rw [if_pos c6] at H
       have c6b0 : decide (97 ≤ (bt a0 x3_1)) = true := decide_eq_true c6
       clear c6
       (first | rw [c6b0] | (simp only [i64_w, i32_w]; rw [c6b0]) | skip)
       by_cases c7 : (bt a0 x3_1) ≤ 122
       ·
        rw [if_pos c7] at H
        have c7b0 : decide ((bt a0 x3_1) ≤ 122) = true := decide_eq_true c7
        clear c7
        have H' := Aside0.mk H
        clear H
        go_wp2
        go_meet
        case rel => exact ⟨_, (true), (by first | rfl | (simp; done) | (simp [*]; done) | (simp [bne, beq_nil_E]; done)), H', ⟨by have := HK1.out; first | omega | exact Nat.le_refl _⟩, by repeat (first | exact Drawn0.refl _ | apply Drawn0.step)⟩
       ·
        rw [if_neg c7] at H
        have c7b0 : decide ((bt a0 x3_1) ≤ 122) = false := decide_eq_false c7
        clear c7
        by_cases c8 : (bt a0 x3_1) ≥ 65
        ·
         rw [if_pos c8] at H
         have c8b0 : decide (65 ≤ (bt a0 x3_1)) = true := decide_eq_true c8
         clear c8
         by_cases c9 : (bt a0 x3_1) ≤ 90
         ·
          rw [if_pos c9] at H
          have c9b0 : decide ((bt a0 x3_1) ≤ 90) = true := decide_eq_true c9
          clear c9
          have H' := Aside0.mk H
          clear H
          go_wp2
          go_meet
          case rel => exact ⟨_, (true), (by first | rfl | (simp; done) | (simp [*]; done) | (simp [bne, beq_nil_E]; done)), H', ⟨by have := HK1.out; first | omega | exact Nat.le_refl _⟩, by repeat (first | exact Drawn0.refl _ | apply Drawn0.step)⟩
         ·
          rw [if_neg c9] at H
          have c9b0 : decide ((bt a0 x3_1) ≤ 90) = false := decide_eq_false c9
          clear c9
          by_cases c10 : (bt a0 x3_1) ≥ 48
          ·
           rw [if_pos c10] at H
           have c10b0 : decide (48 ≤ (bt a0 x3_1)) = true := decide_eq_true c10
           clear c10
           have H' := Aside0.mk H
           clear H
           go_wp2
           go_meet
           case rel => exact ⟨_, (decide ((bt a0 x3_1) ≤ 57)), (by first | rfl | (simp; done) | (simp [*]; done) | (simp [bne, beq_nil_E]; done)), H', ⟨by have := HK1.out; first | omega | exact Nat.le_refl _⟩, by repeat (first | exact Drawn0.refl _ | apply Drawn0.step)⟩
          ·
           rw [if_neg c10] at H
           have c10b0 : decide (48 ≤ (bt a0 x3_1)) = false := decide_eq_false c10
           clear c10
           have H' := Aside0.mk H
           clear H
           go_wp2
           go_meet
           case rel => exact ⟨_, (false), (by first | rfl | (simp; done) | (simp [*]; done) | (simp [bne, beq_nil_E]; done)), H', ⟨by have := HK1.out; first | omega | exact Nat.le_refl _⟩, by repeat (first | exact Drawn0.refl _ | apply Drawn0.step)⟩
        ·
         rw [if_neg c8] at H
         have c8b0 : decide (65 ≤ (bt a0 x3_1)) = false := decide_eq_false c8
         clear c8
         by_cases c11 : (bt a0 x3_1) ≥ 48
         ·
          rw [if_pos c11] at H
          have c11b0 : decide (48 ≤ (bt a0 x3_1)) = true := decide_eq_true c11
          clear c11
          have H' := Aside0.mk H
          clear H
          go_wp2
          go_meet
          case rel => exact ⟨_, (decide ((bt a0 x3_1) ≤ 57)), (by first | rfl | (simp; done) | (simp [*]; done) | (simp [bne, beq_nil_E]; done)), H', ⟨by have := HK1.out; first | omega | exact Nat.le_refl _⟩, by repeat (first | exact Drawn0.refl _ | apply Drawn0.step)⟩
         ·
          rw [if_neg c11] at H
          have c11b0 : decide (48 ≤ (bt a0 x3_1)) = false := decide_eq_false c11
          clear c11
          have H' := Aside0.mk H
          clear H
          go_wp2
          go_meet
          case rel => exact ⟨_, (false), (by first | rfl | (simp; done) | (simp [*]; done) | (simp [bne, beq_nil_E]; done)), H', ⟨by have := HK1.out; first | omega | exact Nat.le_refl _⟩, by repeat (first | exact Drawn0.refl _ | apply Drawn0.step)⟩
      ·
       rw [if_neg c6] at H
       have c6b0 : decide (97 ≤ (bt a0 x3_1)) = false := decide_eq_false c6
       clear c6
       (first | rw [c6b0] | (simp only [i64_w, i32_w]; rw [c6b0]) | skip)
       by_cases c12 : (bt a0 x3_1) ≥ 65
       ·
        rw [if_pos c12] at H
        have c12b0 : decide (65 ≤ (bt a0 x3_1)) = true := decide_eq_true c12
        clear c12
        by_cases c13 : (bt a0 x3_1) ≤ 90
        ·
         rw [if_pos c13] at H
         have c13b0 : decide ((bt a0 x3_1) ≤ 90) = true := decide_eq_true c13
         clear c13
         have H' := Aside0.mk H
         clear H
         go_wp2
         go_meet
         case rel => exact ⟨_, (true), (by first | rfl | (simp; done) | (simp [*]; done) | (simp [bne, beq_nil_E]; done)), H', ⟨by have := HK1.out; first | omega | exact Nat.le_refl _⟩, by repeat (first | exact Drawn0.refl _ | apply Drawn0.step)⟩
        ·
         rw [if_neg c13] at H
         have c13b0 : decide ((bt a0 x3_1) ≤ 90) = false := decide_eq_false c13
         clear c13
         by_cases c14 : (bt a0 x3_1) ≥ 48
         ·
          rw [if_pos c14] at H
          have c14b0 : decide (48 ≤ (bt a0 x3_1)) = true := decide_eq_true c14
          clear c14
          have H' := Aside0.mk H
          clear H
          go_wp2
          go_meet
          case rel => exact ⟨_, (decide ((bt a0 x3_1) ≤ 57)), (by first | rfl | (simp; done) | (simp [*]; done) | (simp [bne, beq_nil_E]; done)), H', ⟨by have := HK1.out; first | omega | exact Nat.le_refl _⟩, by repeat (first | exact Drawn0.refl _ | apply Drawn0.step)⟩
         ·
          rw [if_neg c14] at H
          have c14b0 : decide (48 ≤ (bt a0 x3_1)) = false := decide_eq_false c14
          clear c14
          have H' := Aside0.mk H
          clear H
          go_wp2
          go_meet
          case rel => exact ⟨_, (false), (by first | rfl | (simp; done) | (simp [*]; done) | (simp [bne, beq_nil_E]; done)), H', ⟨by have := HK1.out; first | omega | exact Nat.le_refl _⟩, by repeat (first | exact Drawn0.refl _ | apply Drawn0.step)⟩
       ·
        rw [if_neg c12] at H
        have c12b0 : decide (65 ≤ (bt a0 x3_1)) = false := decide_eq_false c12
        clear c12
        by_cases c15 : (bt a0 x3_1) ≥ 48
        ·
         rw [if_pos c15] at H
         have c15b0 : decide (48 ≤ (bt a0 x3_1)) = true := decide_eq_true c15
         clear c15
         have H' := Aside0.mk H
         clear H
         go_wp2
         go_meet
         case rel => exact ⟨_, (decide ((bt a0 x3_1) ≤ 57)), (by first | rfl | (simp; done) | (simp [*]; done) | (simp [bne, beq_nil_E]; done)), H', ⟨by have := HK1.out; first | omega | exact Nat.le_refl _⟩, by repeat (first | exact Drawn0.refl _ | apply Drawn0.step)⟩
        ·
         rw [if_neg c15] at H
         have c15b0 : decide (48 ≤ (bt a0 x3_1)) = false := decide_eq_false c15
         clear c15
         have H' := Aside0.mk H
         clear H
         go_wp2
         go_meet
         case rel => exact ⟨_, (false), (by first | rfl | (simp; done) | (simp [*]; done) | (simp [bne, beq_nil_E]; done)), H', ⟨by have := HK1.out; first | omega | exact Nat.le_refl _⟩, by repeat (first | exact Drawn0.refl _ | apply Drawn0.step)⟩
     case rest =>
      clear HC5
      try clear c1
      try clear c2
      try clear c2b0
      try clear p2
      try clear c3
      try clear c3b0
      try clear p4
      try clear q4
      try clear hx4
      try clear c6
      try clear c6b0
      try clear c7
      try clear c7b0
      try clear c8
      try clear c8b0
      try clear c9
      try clear c9b0
      try clear c10
      try clear c10b0
      try clear c11
      try clear c11b0
      try clear c12
      try clear c12b0
      try clear c13
      try clear c13b0
      try clear c14
      try clear c14b0
      try clear c15
      try clear c15b0
      try clear p4
      try clear q4
      obtain ⟨kq, x5_4, rfl, HA, HJ4, ⟨mc4, rfl⟩⟩ := hcut
      cases kq with
      | zero => exact absurd HA.out (by simp [emendationref07_Dest.j1])
      | succ kj4 =>
       have H := HA.out
       clear HA
       simp only [emendationref07_Dest.j1] at H
       have H' := Aside0.mk H
       clear H
       go_wp2
       go_loopg [5, 7] kj4 (fun kq v5 v7 w' => ∃ (x5_3 : Bool) (x7_3 : Int), v5 = .bool x5_3 ∧ v7 = .int .i64 x7_3 ∧ Aside0 (emendationref07_Dest.l1 kq a0 x3_1 (bt a0 x3_1) x5_3 (⟨#[46, 47, 95, 45, 35, 63, 38, 58, 37]⟩ : ByteArray) x7_3 = some r) ∧ Aside0 (kq ≤ kj4) ∧ Drawn0 w w')
       case atStart => exact ⟨(x5_4), (0), (by first | rfl | (simp; done) | (simp [*]; done) | (simp [bne, beq_nil_E]; done)), (by first | rfl | (simp; done) | (simp [*]; done) | (simp [bne, beq_nil_E]; done)), H', ⟨Nat.le_refl _⟩, by repeat (first | exact Drawn0.refl _ | apply Drawn0.step)⟩
       case round =>
        clear H'
        try clear c1
        try clear c2
        try clear c2b0
        try clear p2
        try clear c3
        try clear c3b0
        try clear c4
        try clear p4
        try clear q4
        try clear hx4
        try clear c6
        try clear c6b0
        try clear c7
        try clear c7b0
        try clear c8
        try clear c8b0
        try clear c9
        try clear c9b0
        try clear c10
        try clear c10b0
        try clear c11
        try clear c11b0
        try clear c12
        try clear c12b0
        try clear c13
        try clear c13b0
        try clear c14
        try clear c14b0
        try clear c15
        try clear c15b0
        try clear p2
        try clear p4
        try clear q4
        obtain ⟨x5_3, x7_3, rfl, rfl, HA, HK3, ⟨m3, rfl⟩⟩ := hrel
        cases gk with
        | zero => exact absurd HA.out (by simp [emendationref07_Dest.l1])
        | succ k3 =>
         have H := HA.out
         clear HA
         simp only [emendationref07_Dest.l1] at H
         by_cases c16 : x7_3 < ((⟨#[46, 47, 95, 45, 35, 63, 38, 58, 37]⟩ : ByteArray).size : Int)
         ·
          rw [if_pos c16] at H
          have c16b0 : decide (x7_3 < ((⟨#[46, 47, 95, 45, 35, 63, 38, 58, 37]⟩ : ByteArray).size : Int)) = true := decide_eq_true c16
          (try have c16b0z : decide (x7_3 < 9) = true := c16b0)
          clear c16
          by_cases c17 : x5_3 = true
          ·
           subst c17
           have H1 : (emendationref07_Dest.l1 k3 a0 x3_1 (bt a0 x3_1) true (⟨#[46, 47, 95, 45, 35, 63, 38, 58, 37]⟩ : ByteArray) (wrap64 (x7_3 + 1))) = some r := by rw [if_pos rfl] at H; exact H
           clear H
           have H := H1
           clear H1
           have H' := Aside0.mk H
           clear H
           go_wp2
           go_roundg k3
           case measure => have := HK1.out; have := HJ4.out; have := HK3.out; omega
           case rel => exact ⟨(true), (wrap64 (x7_3 + 1)), (by first | rfl | (simp; done) | (simp [*]; done) | (simp [bne, beq_nil_E]; done)), (by first | rfl | (simp; done) | (simp [*]; done) | (simp [bne, beq_nil_E]; done)), H', ⟨by have := HK1.out; have := HJ4.out; have := HK3.out; omega⟩, by repeat (first | exact Drawn0.refl _ | apply Drawn0.step)⟩
          ·
           replace c17 := Bool.eq_false_iff.mpr c17
           subst c17
           have H1 : (if 0 ≤ x7_3 then (emendationref07_Dest.l1 k3 a0 x3_1 (bt a0 x3_1) ((bt a0 x3_1) == (bt (⟨#[46, 47, 95, 45, 35, 63, 38, 58, 37]⟩ : ByteArray) x7_3)) (⟨#[46, 47, 95, 45, 35, 63, 38, 58, 37]⟩ : ByteArray) (wrap64 (x7_3 + 1))) else (none)) = some r := by rw [if_neg (show ¬ (false = true) by decide)] at H; exact H
           clear H
           have H := H1
           clear H1
           by_cases c18 : 0 ≤ x7_3
           ·
            rw [if_pos c18] at H
            have c18b0 : decide (0 ≤ x7_3) = true := decide_eq_true c18
            clear c18
            have H' := Aside0.mk H
            clear H
            have p19 : 0 ≤ (x7_3 : Int) := of_decide_eq_true (by first | (with_reducible assumption) | assumption)
            have q19 : x7_3 < (9 : Int) := of_decide_eq_true (by first | (with_reducible assumption) | assumption)
            have hx19 := bt_at (⟨#[46, 47, 95, 45, 35, 63, 38, 58, 37]⟩ : ByteArray) x7_3
            replace p19 := eq_true p19
            replace q19 := eq_true q19
            go_wp2
            go_roundg k3
            case measure => have := HK1.out; have := HJ4.out; have := HK3.out; omega
            case rel => exact ⟨(((bt a0 x3_1) == (bt (⟨#[46, 47, 95, 45, 35, 63, 38, 58, 37]⟩ : ByteArray) x7_3))), (wrap64 (x7_3 + 1)), (by first | rfl | (simp; done) | (simp [*]; done) | (simp [bne, beq_nil_E]; done)), (by first | rfl | (simp; done) | (simp [*]; done) | (simp [bne, beq_nil_E]; done)), H', ⟨by have := HK1.out; have := HJ4.out; have := HK3.out; omega⟩, by repeat (first | exact Drawn0.refl _ | apply Drawn0.step)⟩
           ·
            rw [if_neg c18] at H
            exact absurd H (by simp)
         ·
          rw [if_neg c16] at H
          have c16b0 : decide (x7_3 < ((⟨#[46, 47, 95, 45, 35, 63, 38, 58, 37]⟩ : ByteArray).size : Int)) = false := decide_eq_false c16
          (try have c16b0z : decide (x7_3 < 9) = false := c16b0)
          clear c16
          by_cases c20 : x5_3 = true
          ·
           subst c20
           have H1 : (emendationref07_Dest.l0 k3 a0 (wrap64 (x3_1 + 1))) = some r := by rw [if_pos rfl] at H; exact H
           clear H
           have H := H1
           clear H1
           have H' := Aside0.mk H
           clear H
           go_wp2
           go_roundg k3
           case measure => have := HK1.out; have := HJ4.out; have := HK3.out; omega
           case rel => exact ⟨(wrap64 (x3_1 + 1)), (by first | rfl | (simp; done) | (simp [*]; done) | (simp [bne, beq_nil_E]; done)), H', ⟨by have := HK1.out; have := HJ4.out; have := HK3.out; omega⟩, by repeat (first | exact Drawn0.refl _ | apply Drawn0.step)⟩
          ·
           replace c20 := Bool.eq_false_iff.mpr c20
           subst c20
           have H1 : (some false) = some r := by rw [if_neg (show ¬ (false = true) by decide)] at H; exact H
           clear H
           have H := H1
           clear H1
           obtain rfl := Option.some.inj H
           go_wp2
           go_ret
           exact ⟨by first | rfl | (simp; done) | (simp [*]; done) | (simp [bne, beq_nil_E]; done), by repeat (first | exact Drawn0.refl _ | apply Drawn0.step)⟩
    ·
     rw [if_neg c3] at H
     exact absurd H (by simp)
   ·
    rw [if_neg c2] at H
    have c2b0 : decide (x3_1 < (a0.size : Int)) = false := decide_eq_false c2
    clear c2
    obtain rfl := Option.some.inj H
    go_wp2
    go_ret
    exact ⟨by first | rfl | (simp; done) | (simp [*]; done) | (simp [bne, beq_nil_E]; done), by repeat (first | exact Drawn0.refl _ | apply Drawn0.step)⟩

/-! ### emendationref07_space: function 78 -/
def emendationref07_space.f (a0 : Int) : Option (Bool) := if a0 = 32 then (some true) else (some (a0 == 9))
set_option maxHeartbeats 8000000 in
set_option maxRecDepth 100000 in
theorem emendationref07_space.calls (a0 : Int) (r : Bool) (w : World) (h : emendationref07_space.f a0 = some r) :
  Calls Tryd.prog 78 #[.int .u8 a0] w fun e w' => e = .returned (.bool r) ∧ Drawn0 w w' := by
 have H : (if a0 = 32 then (some true) else (some (a0 == 9))) = some r := h
 clear h
 by_cases c2 : a0 = 32
 ·
  rw [if_pos c2] at H
  have c2b0 : (a0 == 32) = true := beq_iff_eq.mpr c2
  have c2b1 : (a0 != 32) = false := bne_eq_false_iff_eq.mpr c2
  clear c2
  obtain rfl := Option.some.inj H
  go_enter Tryd.func78, Tryd.ntmps78
  go_wp2
  go_ret
  exact ⟨by first | rfl | (simp; done) | (simp [*]; done) | (simp [bne, beq_nil_E]; done), by repeat (first | exact Drawn0.refl _ | apply Drawn0.step)⟩
 ·
  rw [if_neg c2] at H
  have c2b0 : (a0 == 32) = false := beq_eq_false_iff_ne.mpr c2
  have c2b1 : (a0 != 32) = true := bne_iff_ne.mpr c2
  obtain rfl := Option.some.inj H
  go_enter Tryd.func78, Tryd.ntmps78
  go_wp2
  go_ret
  exact ⟨by first | rfl | (simp; done) | (simp [*]; done) | (simp [bne, beq_nil_E]; done), by repeat (first | exact Drawn0.refl _ | apply Drawn0.step)⟩

/-! ### emendationref07_has: function 110 -/
def emendationref07_has.l0 : Nat → ByteArray → Int → Int → Option (Bool)
 | 0, _, _, _ => none
 | k + 1, x0, x1, x5 => if x5 < (x0.size : Int) then (if 0 ≤ x5 then (if (bt x0 x5) = x1 then (some true) else (emendationref07_has.l0 k x0 x1 (wrap64 (x5 + 1)))) else (none)) else (some false)
def emendationref07_has.f (k : Nat) (a0 : ByteArray) (a1 : Int) : Option (Bool) := emendationref07_has.l0 k a0 a1 0
set_option maxHeartbeats 8000000 in
set_option maxRecDepth 100000 in
theorem emendationref07_has.calls (k : Nat) (a0 : ByteArray) (a1 : Int) (r : Bool) (w : World) (h : emendationref07_has.f k a0 a1 = some r) :
  Calls Tryd.prog 110 #[.string a0, .int .u8 a1] w fun e w' => e = .returned (.bool r) ∧ Drawn0 w w' := by
 have H : (emendationref07_has.l0 k a0 a1 0) = some r := h
 clear h
 have H' := Aside0.mk H
 clear H
 go_enter Tryd.func110, Tryd.ntmps110
 go_wp2
 go_loopg [5] k (fun kq v5 w' => ∃ (x5_1 : Int), v5 = .int .i64 x5_1 ∧ Aside0 (emendationref07_has.l0 kq a0 a1 x5_1 = some r) ∧ Aside0 (kq ≤ k) ∧ Drawn0 w w')
 case atStart => exact ⟨(0), (by first | rfl | (simp; done) | (simp [*]; done) | (simp [bne, beq_nil_E]; done)), H', ⟨Nat.le_refl _⟩, by repeat (first | exact Drawn0.refl _ | apply Drawn0.step)⟩
 case round =>
  clear H'
  try clear c1
  try clear p2
  obtain ⟨x5_1, rfl, HA, HK1, ⟨m1, rfl⟩⟩ := hrel
  cases gk with
  | zero => exact absurd HA.out (by simp [emendationref07_has.l0])
  | succ k1 =>
   have H := HA.out
   clear HA
   simp only [emendationref07_has.l0] at H
   by_cases c3 : x5_1 < (a0.size : Int)
   ·
    rw [if_pos c3] at H
    have c3b0 : decide (x5_1 < (a0.size : Int)) = true := decide_eq_true c3
    clear c3
    by_cases c4 : 0 ≤ x5_1
    ·
     rw [if_pos c4] at H
     have c4b0 : decide (0 ≤ x5_1) = true := decide_eq_true c4
     clear c4
     by_cases c6 : (bt a0 x5_1) = a1
     ·
      rw [if_pos c6] at H
      have c6b0 : ((bt a0 x5_1) == a1) = true := beq_iff_eq.mpr c6
      have c6b1 : ((bt a0 x5_1) != a1) = false := bne_eq_false_iff_eq.mpr c6
      clear c6
      obtain rfl := Option.some.inj H
      have p5 : 0 ≤ (x5_1 : Int) := of_decide_eq_true (by first | (with_reducible assumption) | assumption)
      have q5 : x5_1 < (a0.size : Int) := of_decide_eq_true (by first | (with_reducible assumption) | assumption)
      have hx5 := bt_at a0 x5_1
      replace p5 := eq_true p5
      replace q5 := eq_true q5
      go_wp2
      go_ret
      exact ⟨by first | rfl | (simp; done) | (simp [*]; done) | (simp [bne, beq_nil_E]; done), by repeat (first | exact Drawn0.refl _ | apply Drawn0.step)⟩
     ·
      rw [if_neg c6] at H
      have c6b0 : ((bt a0 x5_1) == a1) = false := beq_eq_false_iff_ne.mpr c6
      have c6b1 : ((bt a0 x5_1) != a1) = true := bne_iff_ne.mpr c6
      have H' := Aside0.mk H
      clear H
      have p5 : 0 ≤ (x5_1 : Int) := of_decide_eq_true (by first | (with_reducible assumption) | assumption)
      have q5 : x5_1 < (a0.size : Int) := of_decide_eq_true (by first | (with_reducible assumption) | assumption)
      have hx5 := bt_at a0 x5_1
      replace p5 := eq_true p5
      replace q5 := eq_true q5
      go_wp2
      go_roundg k1
      case measure => have := HK1.out; omega
      case rel => exact ⟨(wrap64 (x5_1 + 1)), (by first | rfl | (simp; done) | (simp [*]; done) | (simp [bne, beq_nil_E]; done)), H', ⟨by have := HK1.out; omega⟩, by repeat (first | exact Drawn0.refl _ | apply Drawn0.step)⟩
    ·
     rw [if_neg c4] at H
     exact absurd H (by simp)
   ·
    rw [if_neg c3] at H
    have c3b0 : decide (x5_1 < (a0.size : Int)) = false := decide_eq_false c3
    clear c3
    obtain rfl := Option.some.inj H
    go_wp2
    go_ret
    exact ⟨by first | rfl | (simp; done) | (simp [*]; done) | (simp [bne, beq_nil_E]; done), by repeat (first | exact Drawn0.refl _ | apply Drawn0.step)⟩

/-! ### emendationref07_text: function 109 -/
def emendationref07_text.l0 : Nat → ByteArray → Int → Option (Bool)
 | 0, _, _ => none
 | k + 1, x0, x3 => if (wrap64 (x3 + 1)) < (x0.size : Int) then (if 0 ≤ x3 then (if x3 < (x0.size : Int) then (if (bt x0 x3) = 10 then (if 0 ≤ (wrap64 (x3 + 1)) then ((emendationref07_space.f (bt x0 (wrap64 (x3 + 1)))).bind fun t116 => (if t116 = true then (some false) else (if (bt x0 (wrap64 (x3 + 1))) = 10 then (some false) else (emendationref07_text.l0 k x0 (wrap64 (x3 + 1)))))) else (none)) else (if 0 ≤ (wrap64 (x3 + 1)) then (if (bt x0 (wrap64 (x3 + 1))) = 10 then ((emendationref07_space.f (bt x0 x3)).bind fun t117 => (if t117 = true then (some false) else (emendationref07_text.l0 k x0 (wrap64 (x3 + 1))))) else (emendationref07_text.l0 k x0 (wrap64 (x3 + 1)))) else (none))) else (none)) else (none)) else (if x0.toList = ([] : List UInt8) then (some false) else ((emendationref07_has.f k x0 13).bind fun t115 => (some (!t115))))
def emendationref07_text.f (k : Nat) (a0 : ByteArray) : Option (Bool) := emendationref07_text.l0 k a0 0
set_option maxHeartbeats 8000000 in
set_option maxRecDepth 100000 in
theorem emendationref07_text.calls (k : Nat) (a0 : ByteArray) (r : Bool) (w : World) (h : emendationref07_text.f k a0 = some r) :
  Calls Tryd.prog 109 #[.string a0] w fun e w' => e = .returned (.bool r) ∧ Drawn0 w w' := by
 have H : (emendationref07_text.l0 k a0 0) = some r := h
 clear h
 have H' := Aside0.mk H
 clear H
 go_enter Tryd.func109, Tryd.ntmps109
 go_wp2
 go_loopg [3] k (fun kq v3 w' => ∃ (x3_1 : Int), v3 = .int .i64 x3_1 ∧ Aside0 (emendationref07_text.l0 kq a0 x3_1 = some r) ∧ Aside0 (kq ≤ k) ∧ Drawn0 w w')
 case atStart => exact ⟨(0), (by first | rfl | (simp; done) | (simp [*]; done) | (simp [bne, beq_nil_E]; done)), H', ⟨Nat.le_refl _⟩, by repeat (first | exact Drawn0.refl _ | apply Drawn0.step)⟩
 case round =>
  clear H'
  try clear c1
  obtain ⟨x3_1, rfl, HA, HK1, ⟨m1, rfl⟩⟩ := hrel
  cases gk with
  | zero => exact absurd HA.out (by simp [emendationref07_text.l0])
  | succ k1 =>
   have H := HA.out
   clear HA
   simp only [emendationref07_text.l0] at H
   by_cases c2 : (wrap64 (x3_1 + 1)) < (a0.size : Int)
   ·
    rw [if_pos c2] at H
    have c2b0 : decide ((wrap64 (x3_1 + 1)) < (a0.size : Int)) = true := decide_eq_true c2
    clear c2
    by_cases c3 : 0 ≤ x3_1
    ·
     rw [if_pos c3] at H
     have c3b0 : decide (0 ≤ x3_1) = true := decide_eq_true c3
     clear c3
     by_cases c4 : x3_1 < (a0.size : Int)
     ·
      rw [if_pos c4] at H
      have c4b0 : decide (x3_1 < (a0.size : Int)) = true := decide_eq_true c4
      clear c4
      by_cases c6 : (bt a0 x3_1) = 10
      ·
       rw [if_pos c6] at H
       have c6b0 : ((bt a0 x3_1) == 10) = true := beq_iff_eq.mpr c6
       have c6b1 : ((bt a0 x3_1) != 10) = false := bne_eq_false_iff_eq.mpr c6
       clear c6
       obtain ⟨ji7, hji7⟩ : ∃ j_ : Int, (wrap64 (x3_1 + 1)) = j_ := ⟨_, rfl⟩
       replace H : (if 0 ≤ (ji7) then ((emendationref07_space.f (bt a0 (ji7))).bind fun t116 => (if t116 = true then (some false) else (if (bt a0 (ji7)) = 10 then (some false) else (emendationref07_text.l0 k1 a0 ji7)))) else (none)) = some r := by first | (rw [hji7] at H; exact H) | (simp only [hji7] at H ⊢; exact H)
       (try rw [hji7] at c2b0)
       have hji7w : (IntKind.i64.wrap (x3_1 + 1)) = ji7 := (i64_w _).trans hji7
       by_cases c8 : 0 ≤ (ji7)
       ·
        rw [if_pos c8] at H
        have c8b0 : decide (0 ≤ (ji7)) = true := decide_eq_true c8
        clear c8
        replace H := Option.bind_eq_some_iff.mp H
        obtain ⟨t116, A100, H⟩ := H
        replace H : (if t116 = true then (some false) else (if (bt a0 (ji7)) = 10 then (some false) else (emendationref07_text.l0 k1 a0 ji7))) = some r := H
        have A10 := Aside0.mk A100
        clear A100
        by_cases c11 : t116 = true
        ·
         subst c11
         have H1 : (some false) = some r := by rw [if_pos rfl] at H; exact H
         clear H
         have H := H1
         clear H1
         obtain rfl := Option.some.inj H
         have p5 : 0 ≤ (x3_1 : Int) := of_decide_eq_true (by first | (with_reducible assumption) | assumption)
         have q5 : x3_1 < (a0.size : Int) := of_decide_eq_true (by first | (with_reducible assumption) | assumption)
         have hx5 := bt_at a0 x3_1
         replace p5 := eq_true p5
         replace q5 := eq_true q5
         have p9 : 0 ≤ ((ji7) : Int) := of_decide_eq_true (by first | (with_reducible assumption) | assumption)
         have q9 : (ji7) < (a0.size : Int) := of_decide_eq_true (by first | (with_reducible assumption) | assumption)
         have hx9 := bt_at a0 (ji7)
         replace p9 := eq_true p9
         replace q9 := eq_true q9
         have tkA10 : True := trivial
         go_wp2_with (first | (go_at_call 78; clear tkA10; (with_reducible refine (emendationref07_space.calls (bt a0 (ji7)) true _ A10.out).mono ?_); rintro e w' ⟨rfl, ⟨nd, rfl⟩⟩))
         go_ret
         exact ⟨by first | rfl | (simp; done) | (simp only [← hji7] <;> (first | rfl | simp)) | (simp [*]; done), by repeat (first | exact Drawn0.refl _ | apply Drawn0.step)⟩
        ·
         replace c11 := Bool.eq_false_iff.mpr c11
         subst c11
         have H1 : (if (bt a0 (ji7)) = 10 then (some false) else (emendationref07_text.l0 k1 a0 ji7)) = some r := by rw [if_neg (show ¬ (false = true) by decide)] at H; exact H
         clear H
         have H := H1
         clear H1
         by_cases c13 : (bt a0 (ji7)) = 10
         ·
          rw [if_pos c13] at H
          have c13b0 : ((bt a0 (ji7)) == 10) = true := beq_iff_eq.mpr c13
          have c13b1 : ((bt a0 (ji7)) != 10) = false := bne_eq_false_iff_eq.mpr c13
          clear c13
          obtain rfl := Option.some.inj H
          have p5 : 0 ≤ (x3_1 : Int) := of_decide_eq_true (by first | (with_reducible assumption) | assumption)
          have q5 : x3_1 < (a0.size : Int) := of_decide_eq_true (by first | (with_reducible assumption) | assumption)
          have hx5 := bt_at a0 x3_1
          replace p5 := eq_true p5
          replace q5 := eq_true q5
          have p9 : 0 ≤ ((ji7) : Int) := of_decide_eq_true (by first | (with_reducible assumption) | assumption)
          have q9 : (ji7) < (a0.size : Int) := of_decide_eq_true (by first | (with_reducible assumption) | assumption)
          have hx9 := bt_at a0 (ji7)
          replace p9 := eq_true p9
          replace q9 := eq_true q9
          have tkA10 : True := trivial
          go_wp2_with (first | (go_at_call 78; clear tkA10; (with_reducible refine (emendationref07_space.calls (bt a0 (ji7)) false _ A10.out).mono ?_); rintro e w' ⟨rfl, ⟨nd, rfl⟩⟩; have p12 : 0 ≤ ((ji7) : Int) := of_decide_eq_true (by first | (with_reducible assumption) | assumption); have q12 : (ji7) < (a0.size : Int) := of_decide_eq_true (by first | (with_reducible assumption) | assumption); have hx12 := bt_at a0 (ji7); replace p12 := eq_true p12; replace q12 := eq_true q12))
          go_ret
          exact ⟨by first | rfl | (simp; done) | (simp only [← hji7] <;> (first | rfl | simp)) | (simp [*]; done), by repeat (first | exact Drawn0.refl _ | apply Drawn0.step)⟩
         ·
          rw [if_neg c13] at H
          have c13b0 : ((bt a0 (ji7)) == 10) = false := beq_eq_false_iff_ne.mpr c13
          have c13b1 : ((bt a0 (ji7)) != 10) = true := bne_iff_ne.mpr c13
          have H' := Aside0.mk H
          clear H
          have p5 : 0 ≤ (x3_1 : Int) := of_decide_eq_true (by first | (with_reducible assumption) | assumption)
          have q5 : x3_1 < (a0.size : Int) := of_decide_eq_true (by first | (with_reducible assumption) | assumption)
          have hx5 := bt_at a0 x3_1
          replace p5 := eq_true p5
          replace q5 := eq_true q5
          have p9 : 0 ≤ ((ji7) : Int) := of_decide_eq_true (by first | (with_reducible assumption) | assumption)
          have q9 : (ji7) < (a0.size : Int) := of_decide_eq_true (by first | (with_reducible assumption) | assumption)
          have hx9 := bt_at a0 (ji7)
          replace p9 := eq_true p9
          replace q9 := eq_true q9
          have tkA10 : True := trivial
          go_wp2_with (first | (go_at_call 78; clear tkA10; (with_reducible refine (emendationref07_space.calls (bt a0 (ji7)) false _ A10.out).mono ?_); rintro e w' ⟨rfl, ⟨nd, rfl⟩⟩; have p12 : 0 ≤ ((ji7) : Int) := of_decide_eq_true (by first | (with_reducible assumption) | assumption); have q12 : (ji7) < (a0.size : Int) := of_decide_eq_true (by first | (with_reducible assumption) | assumption); have hx12 := bt_at a0 (ji7); replace p12 := eq_true p12; replace q12 := eq_true q12; have p14 : 0 ≤ ((ji7) : Int) := of_decide_eq_true (by first | (with_reducible assumption) | assumption); have q14 : (ji7) < (a0.size : Int) := of_decide_eq_true (by first | (with_reducible assumption) | assumption); have hx14 := bt_at a0 (ji7); replace p14 := eq_true p14; replace q14 := eq_true q14))
          go_roundg k1
          case measure => have := HK1.out; omega
          case rel => exact ⟨(ji7), (by first | rfl | (simp; done) | (simp only [← hji7] <;> (first | rfl | simp)) | (simp [*]; done)), H', ⟨by have := HK1.out; omega⟩, by repeat (first | exact Drawn0.refl _ | apply Drawn0.step)⟩
       ·
        rw [if_neg c8] at H
        exact absurd H (by simp)
      ·
       rw [if_neg c6] at H
       have c6b0 : ((bt a0 x3_1) == 10) = false := beq_eq_false_iff_ne.mpr c6
       have c6b1 : ((bt a0 x3_1) != 10) = true := bne_iff_ne.mpr c6
       obtain ⟨ji15, hji15⟩ : ∃ j_ : Int, (wrap64 (x3_1 + 1)) = j_ := ⟨_, rfl⟩
       replace H : (if 0 ≤ (ji15) then (if (bt a0 (ji15)) = 10 then ((emendationref07_space.f (bt a0 x3_1)).bind fun t117 => (if t117 = true then (some false) else (emendationref07_text.l0 k1 a0 ji15))) else (emendationref07_text.l0 k1 a0 ji15)) else (none)) = some r := by first | (rw [hji15] at H; exact H) | (simp only [hji15] at H ⊢; exact H)
       (try rw [hji15] at c2b0)
       have hji15w : (IntKind.i64.wrap (x3_1 + 1)) = ji15 := (i64_w _).trans hji15
       by_cases c16 : 0 ≤ (ji15)
       ·
        rw [if_pos c16] at H
        have c16b0 : decide (0 ≤ (ji15)) = true := decide_eq_true c16
        clear c16
        by_cases c18 : (bt a0 (ji15)) = 10
        ·
         rw [if_pos c18] at H
         have c18b0 : ((bt a0 (ji15)) == 10) = true := beq_iff_eq.mpr c18
         have c18b1 : ((bt a0 (ji15)) != 10) = false := bne_eq_false_iff_eq.mpr c18
         clear c18
         replace H := Option.bind_eq_some_iff.mp H
         obtain ⟨t117, A200, H⟩ := H
         replace H : (if t117 = true then (some false) else (emendationref07_text.l0 k1 a0 ji15)) = some r := H
         have A20 := Aside0.mk A200
         clear A200
         by_cases c21 : t117 = true
         ·
          subst c21
          have H1 : (some false) = some r := by rw [if_pos rfl] at H; exact H
          clear H
          have H := H1
          clear H1
          obtain rfl := Option.some.inj H
          have p5 : 0 ≤ (x3_1 : Int) := of_decide_eq_true (by first | (with_reducible assumption) | assumption)
          have q5 : x3_1 < (a0.size : Int) := of_decide_eq_true (by first | (with_reducible assumption) | assumption)
          have hx5 := bt_at a0 x3_1
          replace p5 := eq_true p5
          replace q5 := eq_true q5
          have p17 : 0 ≤ ((ji15) : Int) := of_decide_eq_true (by first | (with_reducible assumption) | assumption)
          have q17 : (ji15) < (a0.size : Int) := of_decide_eq_true (by first | (with_reducible assumption) | assumption)
          have hx17 := bt_at a0 (ji15)
          replace p17 := eq_true p17
          replace q17 := eq_true q17
          have p19 : 0 ≤ (x3_1 : Int) := of_decide_eq_true (by first | (with_reducible assumption) | assumption)
          have q19 : x3_1 < (a0.size : Int) := of_decide_eq_true (by first | (with_reducible assumption) | assumption)
          have hx19 := bt_at a0 x3_1
          replace p19 := eq_true p19
          replace q19 := eq_true q19
          have tkA20 : True := trivial
          go_wp2_with (first | (go_at_call 78; clear tkA20; (with_reducible refine (emendationref07_space.calls (bt a0 x3_1) true _ A20.out).mono ?_); rintro e w' ⟨rfl, ⟨nd, rfl⟩⟩))
          go_ret
          exact ⟨by first | rfl | (simp; done) | (simp only [← hji15] <;> (first | rfl | simp)) | (simp [*]; done), by repeat (first | exact Drawn0.refl _ | apply Drawn0.step)⟩
         ·
          replace c21 := Bool.eq_false_iff.mpr c21
          subst c21
          have H1 : (emendationref07_text.l0 k1 a0 ji15) = some r := by rw [if_neg (show ¬ (false = true) by decide)] at H; exact H
          clear H
          have H := H1
          clear H1
          have H' := Aside0.mk H
          clear H
          have p5 : 0 ≤ (x3_1 : Int) := of_decide_eq_true (by first | (with_reducible assumption) | assumption)
          have q5 : x3_1 < (a0.size : Int) := of_decide_eq_true (by first | (with_reducible assumption) | assumption)
          have hx5 := bt_at a0 x3_1
          replace p5 := eq_true p5
          replace q5 := eq_true q5
          have p17 : 0 ≤ ((ji15) : Int) := of_decide_eq_true (by first | (with_reducible assumption) | assumption)
          have q17 : (ji15) < (a0.size : Int) := of_decide_eq_true (by first | (with_reducible assumption) | assumption)
          have hx17 := bt_at a0 (ji15)
          replace p17 := eq_true p17
          replace q17 := eq_true q17
          have p19 : 0 ≤ (x3_1 : Int) := of_decide_eq_true (by first | (with_reducible assumption) | assumption)
          have q19 : x3_1 < (a0.size : Int) := of_decide_eq_true (by first | (with_reducible assumption) | assumption)
          have hx19 := bt_at a0 x3_1
          replace p19 := eq_true p19
          replace q19 := eq_true q19
          have tkA20 : True := trivial
          go_wp2_with (first | (go_at_call 78; clear tkA20; (with_reducible refine (emendationref07_space.calls (bt a0 x3_1) false _ A20.out).mono ?_); rintro e w' ⟨rfl, ⟨nd, rfl⟩⟩))
          go_roundg k1
          case measure => have := HK1.out; omega
          case rel => exact ⟨(ji15), (by first | rfl | (simp; done) | (simp only [← hji15] <;> (first | rfl | simp)) | (simp [*]; done)), H', ⟨by have := HK1.out; omega⟩, by repeat (first | exact Drawn0.refl _ | apply Drawn0.step)⟩
        ·
         rw [if_neg c18] at H
         have c18b0 : ((bt a0 (ji15)) == 10) = false := beq_eq_false_iff_ne.mpr c18
         have c18b1 : ((bt a0 (ji15)) != 10) = true := bne_iff_ne.mpr c18
         have H' := Aside0.mk H
         clear H
         have p5 : 0 ≤ (x3_1 : Int) := of_decide_eq_true (by first | (with_reducible assumption) | assumption)
         have q5 : x3_1 < (a0.size : Int) := of_decide_eq_true (by first | (with_reducible assumption) | assumption)
         have hx5 := bt_at a0 x3_1
         replace p5 := eq_true p5
         replace q5 := eq_true q5
         have p17 : 0 ≤ ((ji15) : Int) := of_decide_eq_true (by first | (with_reducible assumption) | assumption)
         have q17 : (ji15) < (a0.size : Int) := of_decide_eq_true (by first | (with_reducible assumption) | assumption)
         have hx17 := bt_at a0 (ji15)
         replace p17 := eq_true p17
         replace q17 := eq_true q17
         go_wp2
         go_roundg k1
         case measure => have := HK1.out; omega
         case rel => exact ⟨(ji15), (by first | rfl | (simp; done) | (simp only [← hji15] <;> (first | rfl | simp)) | (simp [*]; done)), H', ⟨by have := HK1.out; omega⟩, by repeat (first | exact Drawn0.refl _ | apply Drawn0.step)⟩
       ·
        rw [if_neg c16] at H
        exact absurd H (by simp)
     ·
      rw [if_neg c4] at H
      exact absurd H (by simp)
    ·
     rw [if_neg c3] at H
     exact absurd H (by simp)
   ·
    rw [if_neg c2] at H
    have c2b0 : decide ((wrap64 (x3_1 + 1)) < (a0.size : Int)) = false := decide_eq_false c2
    clear c2
    by_cases c22 : a0.toList = ([] : List UInt8)
    ·
     rw [if_pos c22] at H
     have c22b0 : (a0.toList == ([] : List UInt8)) = true := beq_iff_eq.mpr c22
     have c22b1 : (a0.toList != ([] : List UInt8)) = false := bne_eq_false_iff_eq.mpr c22
     (try (have c22b0e := c22b0; simp only [beq_nil_E] at c22b0e))
     clear c22
     obtain rfl := Option.some.inj H
     go_wp2
     go_ret
     exact ⟨by first | rfl | (simp; done) | (simp [*]; done) | (simp [bne, beq_nil_E]; done), by repeat (first | exact Drawn0.refl _ | apply Drawn0.step)⟩
    ·
     rw [if_neg c22] at H
     have c22b0 : (a0.toList == ([] : List UInt8)) = false := beq_eq_false_iff_ne.mpr c22
     have c22b1 : (a0.toList != ([] : List UInt8)) = true := bne_iff_ne.mpr c22
     (try (have c22b0e := c22b0; simp only [beq_nil_E] at c22b0e))
     replace H := Option.bind_eq_some_iff.mp H
     obtain ⟨t115, A230, H⟩ := H
     replace H : (some (!t115)) = some r := H
     have A23 := Aside0.mk A230
     clear A230
     obtain rfl := Option.some.inj H
     have tkA23 : True := trivial
     go_wp2_with (first | (go_at_call 110; clear tkA23; (with_reducible refine (emendationref07_has.calls k1 a0 13 t115 _ A23.out).mono ?_); rintro e w' ⟨rfl, ⟨nd, rfl⟩⟩))
     go_ret
     exact ⟨by first | rfl | (simp; done) | (simp [*]; done) | (simp [bne, beq_nil_E]; done), by repeat (first | exact Drawn0.refl _ | apply Drawn0.step)⟩

/-! ### emendationref07_edge: function 53 -/
def emendationref07_edge.f (a0 : Int) : Option (Bool) := (emendationref07_space.f a0).bind fun t118 => (if t118 = true then (some true) else (some (a0 == 10)))
set_option maxHeartbeats 8000000 in
set_option maxRecDepth 100000 in
theorem emendationref07_edge.calls (a0 : Int) (r : Bool) (w : World) (h : emendationref07_edge.f a0 = some r) :
  Calls Tryd.prog 53 #[.int .u8 a0] w fun e w' => e = .returned (.bool r) ∧ Drawn0 w w' := by
 have H : ((emendationref07_space.f a0).bind fun t118 => (if t118 = true then (some true) else (some (a0 == 10)))) = some r := h
 clear h
 replace H := Option.bind_eq_some_iff.mp H
 obtain ⟨t118, A20, H⟩ := H
 replace H : (if t118 = true then (some true) else (some (a0 == 10))) = some r := H
 have A2 := Aside0.mk A20
 clear A20
 by_cases c3 : t118 = true
 ·
  subst c3
  have H1 : (some true) = some r := by rw [if_pos rfl] at H; exact H
  clear H
  have H := H1
  clear H1
  obtain rfl := Option.some.inj H
  go_enter Tryd.func53, Tryd.ntmps53
  go_wp2_with (first | ((with_reducible refine gate_callee (f := 78) rfl ?_); refine goesL_ (some 4) rfl rfl Tryd.func78 (by kernel_rfl) rfl #[.int .u8 a0] rfl (by (try simp only [List.map_toArray, List.map_cons, List.map_nil]); first | done | rfl | (simp only [List.length_drop, List.length_take]; rfl)) ?_; (with_reducible refine (emendationref07_space.calls a0 true _ A2.out).mono ?_); rintro e w' ⟨rfl, ⟨nd, rfl⟩⟩; refine ⟨_, rfl, ?_⟩))
  go_ret
  exact ⟨by first | rfl | (simp; done) | (simp [*]; done) | (simp [bne, beq_nil_E]; done), by repeat (first | exact Drawn0.refl _ | apply Drawn0.step)⟩
 ·
  replace c3 := Bool.eq_false_iff.mpr c3
  subst c3
  have H1 : (some (a0 == 10)) = some r := by rw [if_neg (show ¬ (false = true) by decide)] at H; exact H
  clear H
  have H := H1
  clear H1
  obtain rfl := Option.some.inj H
  go_enter Tryd.func53, Tryd.ntmps53
  go_wp2_with (first | ((with_reducible refine gate_callee (f := 78) rfl ?_); refine goesL_ (some 4) rfl rfl Tryd.func78 (by kernel_rfl) rfl #[.int .u8 a0] rfl (by (try simp only [List.map_toArray, List.map_cons, List.map_nil]); first | done | rfl | (simp only [List.length_drop, List.length_take]; rfl)) ?_; (with_reducible refine (emendationref07_space.calls a0 false _ A2.out).mono ?_); rintro e w' ⟨rfl, ⟨nd, rfl⟩⟩; refine ⟨_, rfl, ?_⟩))
  go_ret
  exact ⟨by first | rfl | (simp; done) | (simp [*]; done) | (simp [bne, beq_nil_E]; done), by repeat (first | exact Drawn0.refl _ | apply Drawn0.step)⟩

end Go.Proofs.YtmfffpfenhgjbaaDoor.X
