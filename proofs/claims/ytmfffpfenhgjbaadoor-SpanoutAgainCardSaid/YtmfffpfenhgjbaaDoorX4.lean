-- Written by a program of this session (wip/mkprint.py over the kit's print) out of the translation; Lean checks it.
import Derived.Test.YtmfffpfenhgjbaaDoorX0
import Derived.Test.YtmfffpfenhgjbaaDoorX3
namespace Go.Proofs.YtmfffpfenhgjbaaDoor.X
open Go.RowKit Go.Proofs.YtmfffpfenhgjbaaDoor.G Go.Proofs.YtmfffpfenhgjbaaDoorW.PrintWords Go.Proofs.YtmfffpfenhgjbaaDoorW.PrintLast Go.Proofs.YtmfffpfenhgjbaaDoorW.PrintMore
attribute [local go_sem] max2_int min2_int max_two min_two max_three min_three max_four min_four   -- for this text's walks alone
set_option linter.unusedVariables false
set_option linter.unusedSimpArgs false

/-! ### emendationref01_Check: function 49 -/
mutual
def emendationref01_Check.l0 : Nat → ByteArray → Int → Option (Int)
 | 0, _, _ => none
 | k + 1, x0, x3 => if x3 < (x0.size : Int) then (if 0 ≤ x3 then (if (bt x0 x3) = 0 then (some 3) else (emendationref01_Check.l0 k x0 (wrap64 (x3 + 1)))) else (none)) else (emendationref01_Check.l1 k x0 0)
def emendationref01_Check.l1 : Nat → ByteArray → Int → Option (Int)
 | 0, _, _ => none
 | k + 1, x0, x4 => if x4 < (x0.size : Int) then ((emendationref01_Next.f k x0 x4).bind fun bt113 => (if bt113.2 = 0 then (some 2) else (emendationref01_Check.l1 k x0 (wrap64 (x4 + bt113.2))))) else (some 0)
end
def emendationref01_Check.f (k : Nat) (a0 : ByteArray) : Option (Int) := if (a0.size : Int) > 1048576 then (some 4) else (emendationref01_Check.l0 k a0 0)
set_option maxHeartbeats 8000000 in
set_option maxRecDepth 100000 in
theorem emendationref01_Check.calls (k : Nat) (a0 : ByteArray) (r : Int) (w : World) (h : emendationref01_Check.f k a0 = some r) :
  Calls Tryd.prog 49 #[.string a0] w fun e w' => e = .returned (.int .i64 r) ∧ Drawn0 w w' := by
 have H : (if (a0.size : Int) > 1048576 then (some 4) else (emendationref01_Check.l0 k a0 0)) = some r := h
 clear h
 by_cases c2 : (a0.size : Int) > 1048576
 ·
  rw [if_pos c2] at H
  have c2b0 : decide (1048576 < (a0.size : Int)) = true := decide_eq_true c2
  have c2b1 : decide (1048576 < a0.size) = true := decide_eq_true (by omega)
  clear c2
  obtain rfl := Option.some.inj H
  go_enter Tryd.func49, Tryd.ntmps49
  go_wp2
  go_ret
  exact ⟨by first | rfl | (simp; done) | (simp [*]; done) | (simp [bne, beq_nil_E]; done), by repeat (first | exact Drawn0.refl _ | apply Drawn0.step)⟩
 ·
  rw [if_neg c2] at H
  have c2b0 : decide (1048576 < (a0.size : Int)) = false := decide_eq_false c2
  have c2b1 : decide (1048576 < a0.size) = false := decide_eq_false (by omega)
  clear c2
  have H' := Aside0.mk H
  clear H
  go_enter Tryd.func49, Tryd.ntmps49
  go_wp2
  go_loopg [3] k (fun kq v3 w' => ∃ (x3_1 : Int), v3 = .int .i64 x3_1 ∧ Aside0 (emendationref01_Check.l0 kq a0 x3_1 = some r) ∧ Aside0 (kq ≤ k) ∧ Drawn0 w w')
  case atStart => exact ⟨(0), (by first | rfl | (simp; done) | (simp [*]; done) | (simp [bne, beq_nil_E]; done)), H', ⟨Nat.le_refl _⟩, by repeat (first | exact Drawn0.refl _ | apply Drawn0.step)⟩
  case round =>
   clear H'
   try clear c2
   try clear c2b0
   try clear c2b1
   try clear p2
   obtain ⟨x3_1, rfl, HA, HK1, ⟨m1, rfl⟩⟩ := hrel
   cases gk with
   | zero => exact absurd HA.out (by simp [emendationref01_Check.l0])
   | succ k1 =>
    have H := HA.out
    clear HA
    simp only [emendationref01_Check.l0] at H
    by_cases c3 : x3_1 < (a0.size : Int)
    ·
     rw [if_pos c3] at H
     have c3b0 : decide (x3_1 < (a0.size : Int)) = true := decide_eq_true c3
     clear c3
     by_cases c4 : 0 ≤ x3_1
     ·
      rw [if_pos c4] at H
      have c4b0 : decide (0 ≤ x3_1) = true := decide_eq_true c4
      clear c4
      by_cases c6 : (bt a0 x3_1) = 0
      ·
       rw [if_pos c6] at H
       have c6b0 : ((bt a0 x3_1) == 0) = true := beq_iff_eq.mpr c6
       have c6b1 : ((bt a0 x3_1) != 0) = false := bne_eq_false_iff_eq.mpr c6
       clear c6
       obtain rfl := Option.some.inj H
       have p5 : 0 ≤ (x3_1 : Int) := of_decide_eq_true (by first | (with_reducible assumption) | assumption)
       have q5 : x3_1 < (a0.size : Int) := of_decide_eq_true (by first | (with_reducible assumption) | assumption)
       have hx5 := bt_at a0 x3_1
       replace p5 := eq_true p5
       replace q5 := eq_true q5
       go_wp2
       go_ret
       exact ⟨by first | rfl | (simp; done) | (simp [*]; done) | (simp [bne, beq_nil_E]; done), by repeat (first | exact Drawn0.refl _ | apply Drawn0.step)⟩
      ·
       rw [if_neg c6] at H
       have c6b0 : ((bt a0 x3_1) == 0) = false := beq_eq_false_iff_ne.mpr c6
       have c6b1 : ((bt a0 x3_1) != 0) = true := bne_iff_ne.mpr c6
       have H' := Aside0.mk H
       clear H
       have p5 : 0 ≤ (x3_1 : Int) := of_decide_eq_true (by first | (with_reducible assumption) | assumption)
       have q5 : x3_1 < (a0.size : Int) := of_decide_eq_true (by first | (with_reducible assumption) | assumption)
       have hx5 := bt_at a0 x3_1
       replace p5 := eq_true p5
       replace q5 := eq_true q5
       go_wp2
       go_roundg k1
       case measure => have := HK1.out; omega
       case rel => exact ⟨(wrap64 (x3_1 + 1)), (by first | rfl | (simp; done) | (simp [*]; done) | (simp [bne, beq_nil_E]; done)), H', ⟨by have := HK1.out; omega⟩, by repeat (first | exact Drawn0.refl _ | apply Drawn0.step)⟩
     ·
      rw [if_neg c4] at H
      exact absurd H (by simp)
    ·
     rw [if_neg c3] at H
     have c3b0 : decide (x3_1 < (a0.size : Int)) = false := decide_eq_false c3
     clear c3
     have H' := Aside0.mk H
     clear H
     go_wp2
     go_loopg [4] k1 (fun kq v4 w' => ∃ (x4_2 : Int), v4 = .int .i64 x4_2 ∧ Aside0 (emendationref01_Check.l1 kq a0 x4_2 = some r) ∧ Aside0 (kq ≤ k1) ∧ Drawn0 w w')
     case atStart => exact ⟨(0), (by first | rfl | (simp; done) | (simp [*]; done) | (simp [bne, beq_nil_E]; done)), H', ⟨Nat.le_refl _⟩, by repeat (first | exact Drawn0.refl _ | apply Drawn0.step)⟩
     case round =>
      clear H'
      try clear c2
      try clear c2b0
      try clear c2b1
      try clear p2
      try clear c3
      try clear c3b0
      try clear c4
      try clear c4b0
      try clear p5
      try clear q5
      try clear hx5
      try clear c6
      try clear c6b0
      try clear c6b1
      try clear p6
      try clear p2
      try clear p5
      try clear q5
      obtain ⟨x4_2, rfl, HA, HK2, ⟨m2, rfl⟩⟩ := hrel
      cases gk with
      | zero => exact absurd HA.out (by simp [emendationref01_Check.l1])
      | succ k2 =>
       have H := HA.out
       clear HA
       simp only [emendationref01_Check.l1] at H
       by_cases c7 : x4_2 < (a0.size : Int)
       ·
        rw [if_pos c7] at H
        have c7b0 : decide (x4_2 < (a0.size : Int)) = true := decide_eq_true c7
        clear c7
        replace H := Option.bind_eq_some_iff.mp H
        obtain ⟨⟨t113, t114⟩, A80, H⟩ := H
        replace H : (if t114 = 0 then (some 2) else (emendationref01_Check.l1 k2 a0 (wrap64 (x4_2 + t114)))) = some r := H
        have A8 := Aside0.mk A80
        clear A80
        by_cases c9 : t114 = 0
        ·
         rw [if_pos c9] at H
         have c9b0 : (t114 == 0) = true := beq_iff_eq.mpr c9
         have c9b1 : (t114 != 0) = false := bne_eq_false_iff_eq.mpr c9
         clear c9
         obtain rfl := Option.some.inj H
         go_wp2_with (first | ((with_reducible refine gate_callee (f := 76) rfl ?_); refine goesL_ (some 27) rfl rfl Tryd.func76 (by kernel_rfl) rfl #[.string a0, .int .i64 x4_2] rfl (by (try simp only [List.map_toArray, List.map_cons, List.map_nil]); first | done | rfl | (simp only [List.length_drop, List.length_take]; rfl)) ?_; (with_reducible refine (emendationref01_Next.calls k2 a0 x4_2 t113 t114 _ A8.out).mono ?_); rintro e w' ⟨rfl, ⟨nd, rfl⟩⟩; refine ⟨_, rfl, ?_⟩))
         go_ret
         exact ⟨by first | rfl | (simp; done) | (simp [*]; done) | (simp [bne, beq_nil_E]; done), by repeat (first | exact Drawn0.refl _ | apply Drawn0.step)⟩
        ·
         rw [if_neg c9] at H
         have c9b0 : (t114 == 0) = false := beq_eq_false_iff_ne.mpr c9
         have c9b1 : (t114 != 0) = true := bne_iff_ne.mpr c9
         have H' := Aside0.mk H
         clear H
         go_wp2_with (first | ((with_reducible refine gate_callee (f := 76) rfl ?_); refine goesL_ (some 27) rfl rfl Tryd.func76 (by kernel_rfl) rfl #[.string a0, .int .i64 x4_2] rfl (by (try simp only [List.map_toArray, List.map_cons, List.map_nil]); first | done | rfl | (simp only [List.length_drop, List.length_take]; rfl)) ?_; (with_reducible refine (emendationref01_Next.calls k2 a0 x4_2 t113 t114 _ A8.out).mono ?_); rintro e w' ⟨rfl, ⟨nd, rfl⟩⟩; refine ⟨_, rfl, ?_⟩))
         go_roundg k2
         case measure => have := HK1.out; have := HK2.out; omega
         case rel => exact ⟨(wrap64 (x4_2 + t114)), (by first | rfl | (simp; done) | (simp [*]; done) | (simp [bne, beq_nil_E]; done)), H', ⟨by have := HK1.out; have := HK2.out; omega⟩, by repeat (first | exact Drawn0.refl _ | apply Drawn0.step)⟩
       ·
        rw [if_neg c7] at H
        have c7b0 : decide (x4_2 < (a0.size : Int)) = false := decide_eq_false c7
        clear c7
        obtain rfl := Option.some.inj H
        go_wp2
        go_ret
        exact ⟨by first | rfl | (simp; done) | (simp [*]; done) | (simp [bne, beq_nil_E]; done), by repeat (first | exact Drawn0.refl _ | apply Drawn0.step)⟩

/-! ### emendationref01_Class: function 67 -/
mutual
def emendationref01_Class.j0 : Nat → Int → Bool → Option (Int)
 | 0, _, _ => none
 | k + 1, x0, x8 => if x8 = true then (some 3) else (if x0 = 9 then (emendationref01_Class.j1 k x0 true) else (emendationref01_Class.j1 k x0 (x0 == 32)))
def emendationref01_Class.j1 : Nat → Int → Bool → Option (Int)
 | 0, _, _ => none
 | k + 1, x0, x14 => if x14 = true then (some 2) else (if x0 ≥ 33 then (if x0 ≤ 47 then (some 4) else (if x0 ≥ 58 then (if x0 ≤ 64 then (some 4) else (if x0 ≥ 91 then (if x0 ≤ 96 then (some 4) else (if x0 ≥ 123 then (if x0 ≤ 126 then (some 4) else (some 1)) else (some 1))) else (if x0 ≥ 123 then (if x0 ≤ 126 then (some 4) else (some 1)) else (some 1)))) else (if x0 ≥ 91 then (if x0 ≤ 96 then (some 4) else (if x0 ≥ 123 then (if x0 ≤ 126 then (some 4) else (some 1)) else (some 1))) else (if x0 ≥ 123 then (if x0 ≤ 126 then (some 4) else (some 1)) else (some 1))))) else (if x0 ≥ 58 then (if x0 ≤ 64 then (some 4) else (if x0 ≥ 91 then (if x0 ≤ 96 then (some 4) else (if x0 ≥ 123 then (if x0 ≤ 126 then (some 4) else (some 1)) else (some 1))) else (if x0 ≥ 123 then (if x0 ≤ 126 then (some 4) else (some 1)) else (some 1)))) else (if x0 ≥ 91 then (if x0 ≤ 96 then (some 4) else (if x0 ≥ 123 then (if x0 ≤ 126 then (some 4) else (some 1)) else (some 1))) else (if x0 ≥ 123 then (if x0 ≤ 126 then (some 4) else (some 1)) else (some 1)))))
end
def emendationref01_Class.f (k : Nat) (a0 : Int) : Option (Int) := if a0 = 10 then (emendationref01_Class.j0 k a0 true) else (emendationref01_Class.j0 k a0 (a0 == 13))
set_option maxHeartbeats 8000000 in
set_option maxRecDepth 100000 in
theorem emendationref01_Class.calls (k : Nat) (a0 : Int) (r : Int) (w : World) (h : emendationref01_Class.f k a0 = some r) :
  Calls Tryd.prog 67 #[.int .i64 a0] w fun e w' => e = .returned (.int .i64 r) ∧ Drawn0 w w' := by
 have H : (if a0 = 10 then (emendationref01_Class.j0 k a0 true) else (emendationref01_Class.j0 k a0 (a0 == 13))) = some r := h
 clear h
 have HC2 := Aside0.mk H
 clear H
 go_enter Tryd.func67, Tryd.ntmps67
 go_upto_region 1 with (fail)
 go_cut [8] (fun v8 wc => ∃ (kq : Nat) (x8_1 : Bool), v8 = .bool x8_1 ∧ Aside0 (emendationref01_Class.j0 kq a0 x8_1 = some r) ∧ Aside0 (kq ≤ k) ∧ Drawn0 w wc)
 case first =>
  have H := HC2.out
  clear HC2
  by_cases c3 : a0 = 10
  ·
   rw [if_pos c3] at H
   have c3b0 : (a0 == 10) = true := beq_iff_eq.mpr c3
   have c3b1 : (a0 != 10) = false := bne_eq_false_iff_eq.mpr c3
   clear c3
   (first | rw [c3b0] | (simp only [i64_w, i32_w]; rw [c3b0]) | skip)
   have H' := Aside0.mk H
   clear H
   go_wp2
   go_meet
   case rel => exact ⟨_, (true), (by first | rfl | (simp; done) | (simp [*]; done) | (simp [bne, beq_nil_E]; done)), H', ⟨by first | omega | exact Nat.le_refl _⟩, by repeat (first | exact Drawn0.refl _ | apply Drawn0.step)⟩
  ·
   rw [if_neg c3] at H
   have c3b0 : (a0 == 10) = false := beq_eq_false_iff_ne.mpr c3
   have c3b1 : (a0 != 10) = true := bne_iff_ne.mpr c3
   (first | rw [c3b0] | (simp only [i64_w, i32_w]; rw [c3b0]) | skip)
   have H' := Aside0.mk H
   clear H
   go_wp2
   go_meet
   case rel => exact ⟨_, ((a0 == 13)), (by first | rfl | (simp; done) | (simp [*]; done) | (simp [bne, beq_nil_E]; done)), H', ⟨by first | omega | exact Nat.le_refl _⟩, by repeat (first | exact Drawn0.refl _ | apply Drawn0.step)⟩
 case rest =>
  clear HC2
  try clear p2
  try clear c3
  try clear c3b0
  try clear c3b1
  obtain ⟨kq, x8_1, rfl, HA, HJ1, ⟨mc1, rfl⟩⟩ := hcut
  cases kq with
  | zero => exact absurd HA.out (by simp [emendationref01_Class.j0])
  | succ kj1 =>
   have H := HA.out
   clear HA
   simp only [emendationref01_Class.j0] at H
   by_cases c4 : x8_1 = true
   ·
    subst c4
    have H1 : (some 3) = some r := by rw [if_pos rfl] at H; exact H
    clear H
    have H := H1
    clear H1
    obtain rfl := Option.some.inj H
    go_wp2
    go_ret
    exact ⟨by first | rfl | (simp; done) | (simp [*]; done) | (simp [bne, beq_nil_E]; done), by repeat (first | exact Drawn0.refl _ | apply Drawn0.step)⟩
   ·
    replace c4 := Bool.eq_false_iff.mpr c4
    subst c4
    have H1 : (if a0 = 9 then (emendationref01_Class.j1 kj1 a0 true) else (emendationref01_Class.j1 kj1 a0 (a0 == 32))) = some r := by rw [if_neg (show ¬ (false = true) by decide)] at H; exact H
    clear H
    have H := H1
    clear H1
    have HC5 := Aside0.mk H
    clear H
    go_upto_region 3 with (fail)
    go_cut [14] (fun v14 wc => ∃ (kq : Nat) (x14_4 : Bool), v14 = .bool x14_4 ∧ Aside0 (emendationref01_Class.j1 kq a0 x14_4 = some r) ∧ Aside0 (kq ≤ kj1) ∧ Drawn0 w wc)
    case first =>
     have H := HC5.out
     clear HC5
     by_cases c6 : a0 = 9
     ·
      rw [if_pos c6] at H
      have c6b0 : (a0 == 9) = true := beq_iff_eq.mpr c6
      have c6b1 : (a0 != 9) = false := bne_eq_false_iff_eq.mpr c6
      clear c6
      (first | rw [c6b0] | (simp only [i64_w, i32_w]; rw [c6b0]) | skip)
      have H' := Aside0.mk H
      clear H
      go_wp2
      go_meet
      case rel => exact ⟨_, (true), (by first | rfl | (simp; done) | (simp [*]; done) | (simp [bne, beq_nil_E]; done)), H', ⟨by have := HJ1.out; first | omega | exact Nat.le_refl _⟩, by repeat (first | exact Drawn0.refl _ | apply Drawn0.step)⟩
     ·
      rw [if_neg c6] at H
      have c6b0 : (a0 == 9) = false := beq_eq_false_iff_ne.mpr c6
      have c6b1 : (a0 != 9) = true := bne_iff_ne.mpr c6
      (first | rw [c6b0] | (simp only [i64_w, i32_w]; rw [c6b0]) | skip)
      have H' := Aside0.mk H
      clear H
      go_wp2
      go_meet
      case rel => exact ⟨_, ((a0 == 32)), (by first | rfl | (simp; done) | (simp [*]; done) | (simp [bne, beq_nil_E]; done)), H', ⟨by have := HJ1.out; first | omega | exact Nat.le_refl _⟩, by repeat (first | exact Drawn0.refl _ | apply Drawn0.step)⟩
    case rest =>
     clear HC5
     try clear c1
     try clear p2
     try clear c3
     try clear c3b0
     try clear c3b1
     try clear c4
     try clear c6
     try clear c6b0
     try clear c6b1
     try clear p2
     obtain ⟨kq, x14_4, rfl, HA, HJ4, ⟨mc4, rfl⟩⟩ := hcut
     cases kq with
     | zero => exact absurd HA.out (by simp [emendationref01_Class.j1])
     | succ kj4 =>
      have H := HA.out
      clear HA
      simp only [emendationref01_Class.j1] at H
      by_cases c7 : x14_4 = true
      ·
       subst c7
       have H1 : (some 2) = some r := by rw [if_pos rfl] at H; exact H
       clear H
       have H := H1
       clear H1
       obtain rfl := Option.some.inj H
       go_wp2
       go_ret
       exact ⟨by first | rfl | (simp; done) | (simp [*]; done) | (simp [bne, beq_nil_E]; done), by repeat (first | exact Drawn0.refl _ | apply Drawn0.step)⟩
      ·
       replace c7 := Bool.eq_false_iff.mpr c7
       subst c7
       have H1 : (if a0 ≥ 33 then (if a0 ≤ 47 then (some 4) else (if a0 ≥ 58 then (if a0 ≤ 64 then (some 4) else (if a0 ≥ 91 then (if a0 ≤ 96 then (some 4) else (if a0 ≥ 123 then (if a0 ≤ 126 then (some 4) else (some 1)) else (some 1))) else (if a0 ≥ 123 then (if a0 ≤ 126 then (some 4) else (some 1)) else (some 1)))) else (if a0 ≥ 91 then (if a0 ≤ 96 then (some 4) else (if a0 ≥ 123 then (if a0 ≤ 126 then (some 4) else (some 1)) else (some 1))) else (if a0 ≥ 123 then (if a0 ≤ 126 then (some 4) else (some 1)) else (some 1))))) else (if a0 ≥ 58 then (if a0 ≤ 64 then (some 4) else (if a0 ≥ 91 then (if a0 ≤ 96 then (some 4) else (if a0 ≥ 123 then (if a0 ≤ 126 then (some 4) else (some 1)) else (some 1))) else (if a0 ≥ 123 then (if a0 ≤ 126 then (some 4) else (some 1)) else (some 1)))) else (if a0 ≥ 91 then (if a0 ≤ 96 then (some 4) else (if a0 ≥ 123 then (if a0 ≤ 126 then (some 4) else (some 1)) else (some 1))) else (if a0 ≥ 123 then (if a0 ≤ 126 then (some 4) else (some 1)) else (some 1))))) = some r := by rw [if_neg (show ¬ (false = true) by decide)] at H; exact H
       clear H
       have H := H1
       clear H1
       by_cases c8 : a0 ≥ 33
       ·
        rw [if_pos c8] at H
        have c8b0 : decide (33 ≤ a0) = true := decide_eq_true c8
        clear c8
        by_cases c9 : a0 ≤ 47
        ·
         rw [if_pos c9] at H
         have c9b0 : decide (a0 ≤ 47) = true := decide_eq_true c9
         clear c9
         obtain rfl := Option.some.inj H
         go_wp2
         go_ret
         exact ⟨by first | rfl | (simp; done) | (simp [*]; done) | (simp [bne, beq_nil_E]; done), by repeat (first | exact Drawn0.refl _ | apply Drawn0.step)⟩
        ·
         rw [if_neg c9] at H
         have c9b0 : decide (a0 ≤ 47) = false := decide_eq_false c9
         clear c9
         by_cases c10 : a0 ≥ 58
         ·
          rw [if_pos c10] at H
          have c10b0 : decide (58 ≤ a0) = true := decide_eq_true c10
          clear c10
          by_cases c11 : a0 ≤ 64
          ·
           rw [if_pos c11] at H
           have c11b0 : decide (a0 ≤ 64) = true := decide_eq_true c11
           clear c11
           obtain rfl := Option.some.inj H
           go_wp2
           go_ret
           exact ⟨by first | rfl | (simp; done) | (simp [*]; done) | (simp [bne, beq_nil_E]; done), by repeat (first | exact Drawn0.refl _ | apply Drawn0.step)⟩
          ·
           rw [if_neg c11] at H
           have c11b0 : decide (a0 ≤ 64) = false := decide_eq_false c11
           clear c11
           by_cases c12 : a0 ≥ 91
           ·
            rw [if_pos c12] at H
            have c12b0 : decide (91 ≤ a0) = true := decide_eq_true c12
            clear c12
            by_cases c13 : a0 ≤ 96
            ·
             rw [if_pos c13] at H
             have c13b0 : decide (a0 ≤ 96) = true := decide_eq_true c13
             clear c13
             obtain rfl := Option.some.inj H
             go_wp2
             go_ret
             exact ⟨by first | rfl | (simp; done) | (simp [*]; done) | (simp [bne, beq_nil_E]; done), by repeat (first | exact Drawn0.refl _ | apply Drawn0.step)⟩
            ·
             rw [if_neg c13] at H
             have c13b0 : decide (a0 ≤ 96) = false := decide_eq_false c13
             clear c13
             by_cases c14 : a0 ≥ 123
             ·
              rw [if_pos c14] at H
              have c14b0 : decide (123 ≤ a0) = true := decide_eq_true c14
              clear c14
              by_cases c15 : a0 ≤ 126
              ·
               rw [if_pos c15] at H
               have c15b0 : decide (a0 ≤ 126) = true := decide_eq_true c15
               clear c15
               obtain rfl := Option.some.inj H
               go_wp2
               go_ret
               exact ⟨by first | rfl | (simp; done) | (simp [*]; done) | (simp [bne, beq_nil_E]; done), by repeat (first | exact Drawn0.refl _ | apply Drawn0.step)⟩
              ·
               rw [if_neg c15] at H
               have c15b0 : decide (a0 ≤ 126) = false := decide_eq_false c15
               clear c15
               obtain rfl := Option.some.inj H
               go_wp2
               go_ret
               exact ⟨by first | rfl | (simp; done) | (simp [*]; done) | (simp [bne, beq_nil_E]; done), by repeat (first | exact Drawn0.refl _ | apply Drawn0.step)⟩
             ·
              rw [if_neg c14] at H
              have c14b0 : decide (123 ≤ a0) = false := decide_eq_false c14
              clear c14
              obtain rfl := Option.some.inj H
              go_wp2
              go_ret
              exact ⟨by first | rfl | (simp; done) | (simp [*]; done) | (simp [bne, beq_nil_E]; done), by repeat (first | exact Drawn0.refl _ | apply Drawn0.step)⟩
           ·
            rw [if_neg c12] at H
            have c12b0 : decide (91 ≤ a0) = false := decide_eq_false c12
            clear c12
            by_cases c16 : a0 ≥ 123
            ·
             rw [if_pos c16] at H
             have c16b0 : decide (123 ≤ a0) = true := decide_eq_true c16
             clear c16
             by_cases c17 : a0 ≤ 126
             ·
              rw [if_pos c17] at H
              have c17b0 : decide (a0 ≤ 126) = true := decide_eq_true c17
              clear c17
              obtain rfl := Option.some.inj H
              go_wp2
              go_ret
              exact ⟨by first | rfl | (simp; done) | (simp [*]; done) | (simp [bne, beq_nil_E]; done), by repeat (first | exact Drawn0.refl _ | apply Drawn0.step)⟩
             ·
              rw [if_neg c17] at H
              have c17b0 : decide (a0 ≤ 126) = false := decide_eq_false c17
              clear c17
              obtain rfl := Option.some.inj H
              go_wp2
              go_ret
              exact ⟨by first | rfl | (simp; done) | (simp [*]; done) | (simp [bne, beq_nil_E]; done), by repeat (first | exact Drawn0.refl _ | apply Drawn0.step)⟩
            ·
             rw [if_neg c16] at H
             have c16b0 : decide (123 ≤ a0) = false := decide_eq_false c16
             clear c16
             obtain rfl := Option.some.inj H
             go_wp2
             go_ret
             exact ⟨by first | rfl | (simp; done) | (simp [*]; done) | (simp [bne, beq_nil_E]; done), by repeat (first | exact Drawn0.refl _ | apply Drawn0.step)⟩
         ·
          rw [if_neg c10] at H
          have c10b0 : decide (58 ≤ a0) = false := decide_eq_false c10
          clear c10
          by_cases c18 : a0 ≥ 91
          ·
           rw [if_pos c18] at H
           have c18b0 : decide (91 ≤ a0) = true := decide_eq_true c18
           clear c18
           by_cases c19 : a0 ≤ 96
           ·
            rw [if_pos c19] at H
            have c19b0 : decide (a0 ≤ 96) = true := decide_eq_true c19
            clear c19
            obtain rfl := Option.some.inj H
            go_wp2
            go_ret
            exact ⟨by first | rfl | (simp; done) | (simp [*]; done) | (simp [bne, beq_nil_E]; done), by repeat (first | exact Drawn0.refl _ | apply Drawn0.step)⟩
           ·
            rw [if_neg c19] at H
            have c19b0 : decide (a0 ≤ 96) = false := decide_eq_false c19
            clear c19
            by_cases c20 : a0 ≥ 123
            ·
             rw [if_pos c20] at H
             have c20b0 : decide (123 ≤ a0) = true := decide_eq_true c20
             clear c20
             by_cases c21 : a0 ≤ 126
             ·
              rw [if_pos c21] at H
              have c21b0 : decide (a0 ≤ 126) = true := decide_eq_true c21
              clear c21
              obtain rfl := Option.some.inj H
              go_wp2
              go_ret
              exact ⟨by first | rfl | (simp; done) | (simp [*]; done) | (simp [bne, beq_nil_E]; done), by repeat (first | exact Drawn0.refl _ | apply Drawn0.step)⟩
             ·
              rw [if_neg c21] at H
              have c21b0 : decide (a0 ≤ 126) = false := decide_eq_false c21
              clear c21
              obtain rfl := Option.some.inj H
              go_wp2
              go_ret
              exact ⟨by first | rfl | (simp; done) | (simp [*]; done) | (simp [bne, beq_nil_E]; done), by repeat (first | exact Drawn0.refl _ | apply Drawn0.step)⟩
            ·
             rw [if_neg c20] at H
             have c20b0 : decide (123 ≤ a0) = false := decide_eq_false c20
             clear c20
             obtain rfl := Option.some.inj H
             go_wp2
             go_ret
             exact ⟨by first | rfl | (simp; done) | (simp [*]; done) | (simp [bne, beq_nil_E]; done), by repeat (first | exact Drawn0.refl _ | apply Drawn0.step)⟩
          ·
           rw [if_neg c18] at H
           have c18b0 : decide (91 ≤ a0) = false := decide_eq_false c18
           clear c18
           by_cases c22 : a0 ≥ 123
           ·
            rw [if_pos c22] at H
            have c22b0 : decide (123 ≤ a0) = true := decide_eq_true c22
            clear c22
            by_cases c23 : a0 ≤ 126
            ·
             rw [if_pos c23] at H
             have c23b0 : decide (a0 ≤ 126) = true := decide_eq_true c23
             clear c23
             obtain rfl := Option.some.inj H
             go_wp2
             go_ret
             exact ⟨by first | rfl | (simp; done) | (simp [*]; done) | (simp [bne, beq_nil_E]; done), by repeat (first | exact Drawn0.refl _ | apply Drawn0.step)⟩
            ·
             rw [if_neg c23] at H
             have c23b0 : decide (a0 ≤ 126) = false := decide_eq_false c23
             clear c23
             obtain rfl := Option.some.inj H
             go_wp2
             go_ret
             exact ⟨by first | rfl | (simp; done) | (simp [*]; done) | (simp [bne, beq_nil_E]; done), by repeat (first | exact Drawn0.refl _ | apply Drawn0.step)⟩
           ·
            rw [if_neg c22] at H
            have c22b0 : decide (123 ≤ a0) = false := decide_eq_false c22
            clear c22
            obtain rfl := Option.some.inj H
            go_wp2
            go_ret
            exact ⟨by first | rfl | (simp; done) | (simp [*]; done) | (simp [bne, beq_nil_E]; done), by repeat (first | exact Drawn0.refl _ | apply Drawn0.step)⟩
       ·
        rw [if_neg c8] at H
        have c8b0 : decide (33 ≤ a0) = false := decide_eq_false c8
        clear c8
        by_cases c24 : a0 ≥ 58
        ·
         rw [if_pos c24] at H
         have c24b0 : decide (58 ≤ a0) = true := decide_eq_true c24
         clear c24
         by_cases c25 : a0 ≤ 64
         ·
          rw [if_pos c25] at H
          have c25b0 : decide (a0 ≤ 64) = true := decide_eq_true c25
          clear c25
          obtain rfl := Option.some.inj H
          go_wp2
          go_ret
          exact ⟨by first | rfl | (simp; done) | (simp [*]; done) | (simp [bne, beq_nil_E]; done), by repeat (first | exact Drawn0.refl _ | apply Drawn0.step)⟩
         ·
          rw [if_neg c25] at H
          have c25b0 : decide (a0 ≤ 64) = false := decide_eq_false c25
          clear c25
          by_cases c26 : a0 ≥ 91
          ·
           rw [if_pos c26] at H
           have c26b0 : decide (91 ≤ a0) = true := decide_eq_true c26
           clear c26
           by_cases c27 : a0 ≤ 96
           ·
            rw [if_pos c27] at H
            have c27b0 : decide (a0 ≤ 96) = true := decide_eq_true c27
            clear c27
            obtain rfl := Option.some.inj H
            go_wp2
            go_ret
            exact ⟨by first | rfl | (simp; done) | (simp [*]; done) | (simp [bne, beq_nil_E]; done), by repeat (first | exact Drawn0.refl _ | apply Drawn0.step)⟩
           ·
            rw [if_neg c27] at H
            have c27b0 : decide (a0 ≤ 96) = false := decide_eq_false c27
            clear c27
            by_cases c28 : a0 ≥ 123
            ·
             rw [if_pos c28] at H
             have c28b0 : decide (123 ≤ a0) = true := decide_eq_true c28
             clear c28
             by_cases c29 : a0 ≤ 126
             ·
              rw [if_pos c29] at H
              have c29b0 : decide (a0 ≤ 126) = true := decide_eq_true c29
              clear c29
              obtain rfl := Option.some.inj H
              go_wp2
              go_ret
              exact ⟨by first | rfl | (simp; done) | (simp [*]; done) | (simp [bne, beq_nil_E]; done), by repeat (first | exact Drawn0.refl _ | apply Drawn0.step)⟩
             ·
              rw [if_neg c29] at H
              have c29b0 : decide (a0 ≤ 126) = false := decide_eq_false c29
              clear c29
              obtain rfl := Option.some.inj H
              go_wp2
              go_ret
              exact ⟨by first | rfl | (simp; done) | (simp [*]; done) | (simp [bne, beq_nil_E]; done), by repeat (first | exact Drawn0.refl _ | apply Drawn0.step)⟩
            ·
             rw [if_neg c28] at H
             have c28b0 : decide (123 ≤ a0) = false := decide_eq_false c28
             clear c28
             obtain rfl := Option.some.inj H
             go_wp2
             go_ret
             exact ⟨by first | rfl | (simp; done) | (simp [*]; done) | (simp [bne, beq_nil_E]; done), by repeat (first | exact Drawn0.refl _ | apply Drawn0.step)⟩
          ·
           rw [if_neg c26] at H
           have c26b0 : decide (91 ≤ a0) = false := decide_eq_false c26
           clear c26
           by_cases c30 : a0 ≥ 123
           ·
            rw [if_pos c30] at H
            have c30b0 : decide (123 ≤ a0) = true := decide_eq_true c30
            clear c30
            by_cases c31 : a0 ≤ 126
            ·
             rw [if_pos c31] at H
             have c31b0 : decide (a0 ≤ 126) = true := decide_eq_true c31
             clear c31
             obtain rfl := Option.some.inj H
             go_wp2
             go_ret
             exact ⟨by first | rfl | (simp; done) | (simp [*]; done) | (simp [bne, beq_nil_E]; done), by repeat (first | exact Drawn0.refl _ | apply Drawn0.step)⟩
            ·
             rw [if_neg c31] at H
             have c31b0 : decide (a0 ≤ 126) = false := decide_eq_false c31
             clear c31
             obtain rfl := Option.some.inj H
             go_wp2
             go_ret
             exact ⟨by first | rfl | (simp; done) | (simp [*]; done) | (simp [bne, beq_nil_E]; done), by repeat (first | exact Drawn0.refl _ | apply Drawn0.step)⟩
           ·
            rw [if_neg c30] at H
            have c30b0 : decide (123 ≤ a0) = false := decide_eq_false c30
            clear c30
            obtain rfl := Option.some.inj H
            go_wp2
            go_ret
            exact ⟨by first | rfl | (simp; done) | (simp [*]; done) | (simp [bne, beq_nil_E]; done), by repeat (first | exact Drawn0.refl _ | apply Drawn0.step)⟩
        ·
         rw [if_neg c24] at H
         have c24b0 : decide (58 ≤ a0) = false := decide_eq_false c24
         clear c24
         by_cases c32 : a0 ≥ 91
         ·
          rw [if_pos c32] at H
          have c32b0 : decide (91 ≤ a0) = true := decide_eq_true c32
          clear c32
          by_cases c33 : a0 ≤ 96
          ·
           rw [if_pos c33] at H
           have c33b0 : decide (a0 ≤ 96) = true := decide_eq_true c33
           clear c33
           obtain rfl := Option.some.inj H
           go_wp2
           go_ret
           exact ⟨by first | rfl | (simp; done) | (simp [*]; done) | (simp [bne, beq_nil_E]; done), by repeat (first | exact Drawn0.refl _ | apply Drawn0.step)⟩
          ·
           rw [if_neg c33] at H
           have c33b0 : decide (a0 ≤ 96) = false := decide_eq_false c33
           clear c33
           by_cases c34 : a0 ≥ 123
           ·
            rw [if_pos c34] at H
            have c34b0 : decide (123 ≤ a0) = true := decide_eq_true c34
            clear c34
            by_cases c35 : a0 ≤ 126
            ·
             rw [if_pos c35] at H
             have c35b0 : decide (a0 ≤ 126) = true := decide_eq_true c35
             clear c35
             obtain rfl := Option.some.inj H
             go_wp2
             go_ret
             exact ⟨by first | rfl | (simp; done) | (simp [*]; done) | (simp [bne, beq_nil_E]; done), by repeat (first | exact Drawn0.refl _ | apply Drawn0.step)⟩
            ·
             rw [if_neg c35] at H
             have c35b0 : decide (a0 ≤ 126) = false := decide_eq_false c35
             clear c35
             obtain rfl := Option.some.inj H
             go_wp2
             go_ret
             exact ⟨by first | rfl | (simp; done) | (simp [*]; done) | (simp [bne, beq_nil_E]; done), by repeat (first | exact Drawn0.refl _ | apply Drawn0.step)⟩
           ·
            rw [if_neg c34] at H
            have c34b0 : decide (123 ≤ a0) = false := decide_eq_false c34
            clear c34
            obtain rfl := Option.some.inj H
            go_wp2
            go_ret
            exact ⟨by first | rfl | (simp; done) | (simp [*]; done) | (simp [bne, beq_nil_E]; done), by repeat (first | exact Drawn0.refl _ | apply Drawn0.step)⟩
         ·
          rw [if_neg c32] at H
          have c32b0 : decide (91 ≤ a0) = false := decide_eq_false c32
          clear c32
          by_cases c36 : a0 ≥ 123
          ·
           rw [if_pos c36] at H
           have c36b0 : decide (123 ≤ a0) = true := decide_eq_true c36
           clear c36
           by_cases c37 : a0 ≤ 126
           ·
            rw [if_pos c37] at H
            have c37b0 : decide (a0 ≤ 126) = true := decide_eq_true c37
            clear c37
            obtain rfl := Option.some.inj H
            go_wp2
            go_ret
            exact ⟨by first | rfl | (simp; done) | (simp [*]; done) | (simp [bne, beq_nil_E]; done), by repeat (first | exact Drawn0.refl _ | apply Drawn0.step)⟩
           ·
            rw [if_neg c37] at H
            have c37b0 : decide (a0 ≤ 126) = false := decide_eq_false c37
            clear c37
            obtain rfl := Option.some.inj H
            go_wp2
            go_ret
            exact ⟨by first | rfl | (simp; done) | (simp [*]; done) | (simp [bne, beq_nil_E]; done), by repeat (first | exact Drawn0.refl _ | apply Drawn0.step)⟩
          ·
           rw [if_neg c36] at H
           have c36b0 : decide (123 ≤ a0) = false := decide_eq_false c36
           clear c36
           obtain rfl := Option.some.inj H
           go_wp2
           go_ret
           exact ⟨by first | rfl | (simp; done) | (simp [*]; done) | (simp [bne, beq_nil_E]; done), by repeat (first | exact Drawn0.refl _ | apply Drawn0.step)⟩

end Go.Proofs.YtmfffpfenhgjbaaDoor.X
