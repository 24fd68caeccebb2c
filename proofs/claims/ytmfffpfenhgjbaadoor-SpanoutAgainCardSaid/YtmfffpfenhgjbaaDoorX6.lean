-- Written by a program of this session (wip/mkprint.py over the kit's print) out of the translation; Lean checks it.
import Derived.Test.YtmfffpfenhgjbaaDoorX0
import Derived.Test.YtmfffpfenhgjbaaDoorGivenDest
namespace Go.Proofs.YtmfffpfenhgjbaaDoor.X
open Go.RowKit Go.Proofs.YtmfffpfenhgjbaaDoor.G Go.Proofs.YtmfffpfenhgjbaaDoorW.PrintWords Go.Proofs.YtmfffpfenhgjbaaDoorW.PrintLast Go.Proofs.YtmfffpfenhgjbaaDoorW.PrintMore
attribute [local go_sem] max2_int min2_int max_two min_two max_three min_three max_four min_four   -- for this text's walks alone
set_option linter.unusedVariables false
set_option linter.unusedSimpArgs false

/-! ### emendationref07_spend: function 61 -/
mutual
def emendationref07_spend.l0 : Nat → List (S26) → Int → Int → Int → Int → Int → Option (Int)
 | 0, _, _, _, _, _, _ => none
 | k + 1, x0, x1, x2, x7, x10, x11 => if x11 < x10 then (if x1 = 0 then (some (wrap64 (x7 + 1000000))) else (if x7 ≥ x2 then (some (wrap64 (x7 + 1000000))) else (if 0 ≤ x11 then (if x11 < (x0.length : Int) then ((emendationref07_spend.f k ((rd_T26 x0 x11).f2) (wrap64 (x1 - 1)) (wrap64 (x2 - (wrap64 ((wrap64 (x7 + 1)) + (((rd_T26 x0 x11).f1).size : Int)))))).bind fun t121 => (emendationref07_spend.l0 k x0 x1 x2 (wrap64 ((wrap64 ((wrap64 (x7 + 1)) + (((rd_T26 x0 x11).f1).size : Int))) + t121)) x10 (wrap64 (x11 + 1)))) else (none)) else (none)))) else (some x7)
def emendationref07_spend.f : Nat → List (S26) → Int → Int → Option (Int)
 | 0, _, _, _ => none
 | k + 1, l0, a1, a2 => emendationref07_spend.l0 k l0 a1 a2 0 (l0.length : Int) 0
end
set_option maxHeartbeats 8000000 in
set_option maxRecDepth 100000 in
theorem emendationref07_spend.calls (k : Nat) : ∀ (A0 : Option Addr) (c0 : Nat) (l0 : List (S26)) (a1 : Int) (a2 : Int) (r : Int) (w : World) (hr0 : Kd.C k26 w A0 l0.length l0) (hc0 : l0.length ≤ c0) (h : emendationref07_spend.f k l0 a1 a2 = some r),
  Calls Tryd.prog 61 #[.slice A0 l0.length c0, .int .i64 a1, .int .i64 a2] w fun e w' => e = .returned (.int .i64 r) ∧ Drawn0 w w' := by
 induction k using Nat.strongRecOn with
 | _ k ih =>
 intro A0 c0 l0 a1 a2 r w hr0 hc0 h
 cases k with
 | zero => exact absurd h (by simp [emendationref07_spend.f])
 | succ k =>
 simp only [emendationref07_spend.f] at h
 have HR0 := Aside0.mk hr0
 have HC0 := Aside0.mk hc0
 clear hr0 hc0
 have H : (emendationref07_spend.l0 k l0 a1 a2 0 (l0.length : Int) 0) = some r := h
 clear h
 have H' := Aside0.mk H
 clear H
 go_enter Tryd.func61, Tryd.ntmps61
 go_wp2
 go_loopg [7, 11] k (fun kq v7 v11 w' => ∃ (x7_1 : Int) (x11_1 : Int), v7 = .int .i64 x7_1 ∧ v11 = .int .i64 x11_1 ∧ Aside0 (emendationref07_spend.l0 kq l0 a1 a2 x7_1 (l0.length : Int) x11_1 = some r) ∧ Aside0 (kq ≤ k) ∧ Drawn0 w w')
 case atStart => exact ⟨(0), (0), (by first | rfl | (simp; done) | (simp [*]; done) | (simp [bne, beq_nil_E]; done)), (by first | rfl | (simp; done) | (simp [*]; done) | (simp [bne, beq_nil_E]; done)), H', ⟨Nat.le_refl _⟩, by repeat (first | exact Drawn0.refl _ | apply Drawn0.step)⟩
 case round =>
  clear H'
  try clear p2
  obtain ⟨x7_1, x11_1, rfl, rfl, HA, HK1, ⟨m1, rfl⟩⟩ := hrel
  cases gk with
  | zero => exact absurd HA.out (by simp [emendationref07_spend.l0])
  | succ k1 =>
   have H := HA.out
   clear HA
   simp only [emendationref07_spend.l0] at H
   by_cases c4 : x11_1 < (l0.length : Int)
   ·
    rw [if_pos c4] at H
    have c4b0 : decide (x11_1 < (l0.length : Int)) = true := decide_eq_true c4
    clear c4
    by_cases c5 : a1 = 0
    ·
     rw [if_pos c5] at H
     have c5b0 : (a1 == 0) = true := beq_iff_eq.mpr c5
     have c5b1 : (a1 != 0) = false := bne_eq_false_iff_eq.mpr c5
     clear c5
     obtain rfl := Option.some.inj H
     go_wp2
     go_ret
     exact ⟨by first | rfl | (simp; done) | (simp [*]; done) | (simp [bne, beq_nil_E]; done), by repeat (first | exact Drawn0.refl _ | apply Drawn0.step)⟩
    ·
     rw [if_neg c5] at H
     have c5b0 : (a1 == 0) = false := beq_eq_false_iff_ne.mpr c5
     have c5b1 : (a1 != 0) = true := bne_iff_ne.mpr c5
     by_cases c6 : x7_1 ≥ a2
     ·
      rw [if_pos c6] at H
      have c6b0 : decide (a2 ≤ x7_1) = true := decide_eq_true c6
      clear c6
      obtain rfl := Option.some.inj H
      go_wp2
      go_ret
      exact ⟨by first | rfl | (simp; done) | (simp [*]; done) | (simp [bne, beq_nil_E]; done), by repeat (first | exact Drawn0.refl _ | apply Drawn0.step)⟩
     ·
      rw [if_neg c6] at H
      have c6b0 : decide (a2 ≤ x7_1) = false := decide_eq_false c6
      clear c6
      by_cases c7 : 0 ≤ x11_1
      ·
       rw [if_pos c7] at H
       have c7b0 : decide (0 ≤ x11_1) = true := decide_eq_true c7
       clear c7
       by_cases c8 : x11_1 < (l0.length : Int)
       ·
        rw [if_pos c8] at H
        have c8b0 : decide (x11_1 < (l0.length : Int)) = true := decide_eq_true c8
        clear c8
        replace H := Option.bind_eq_some_iff.mp H
        obtain ⟨t121, A90, H⟩ := H
        replace H : (emendationref07_spend.l0 k1 l0 a1 a2 (wrap64 ((wrap64 ((wrap64 (x7_1 + 1)) + (((rd_T26 l0 x11_1).f1).size : Int))) + t121)) (l0.length : Int) (wrap64 (x11_1 + 1))) = some r := H
        have A9 := Aside0.mk A90
        clear A90
        have H' := Aside0.mk H
        clear H
        have p119 : 0 ≤ (x11_1 : Int) := of_decide_eq_true (by first | (with_reducible assumption) | assumption)
        have q119 : x11_1 < (l0.length : Int) := of_decide_eq_true (by first | (with_reducible assumption) | assumption)
        obtain ⟨ad119, A119_2, c119_2, e119, hx119_0, hx119_1, hx119_2, hl119_2, hi119_2⟩ := at_T26 HR0.out x11_1 p119 q119
        cases e119
        have HR119_2 := Aside0.mk hi119_2
        have HC119_2 := Aside0.mk hl119_2
        clear hi119_2 hl119_2
        replace p119 := eq_true p119
        replace q119 := eq_true q119
        have p120 : 0 ≤ (x11_1 : Int) := of_decide_eq_true (by first | (with_reducible assumption) | assumption)
        have q120 : x11_1 < (l0.length : Int) := of_decide_eq_true (by first | (with_reducible assumption) | assumption)
        obtain ⟨ad120, A120_2, c120_2, e120, hx120_0, hx120_1, hx120_2, hl120_2, hi120_2⟩ := at_T26 HR0.out x11_1 p120 q120
        obtain rfl : ad119 = ad120 := (by injection e120)
        have HR120_2 := Aside0.mk hi120_2
        have HC120_2 := Aside0.mk hl120_2
        clear hi120_2 hl120_2
        replace p120 := eq_true p120
        replace q120 := eq_true q120
        have ea_ := Option.some.inj (hx119_2.symm.trans hx120_2)
        injection ea_ with ea_ en_ ec_
        subst ea_
        subst ec_
        clear en_
        go_wp2_with (first | ((with_reducible refine gate_callee (f := 61) rfl ?_); refine goesL_ (some 43) rfl rfl Tryd.func61 (by kernel_rfl) rfl #[.slice A119_2 ((rd_T26 l0 x11_1).f2).length c119_2, .int .i64 (wrap64 (a1 - 1)), .int .i64 (wrap64 (a2 - (wrap64 ((wrap64 (x7_1 + 1)) + (((rd_T26 l0 x11_1).f1).size : Int)))))] rfl (by (try simp only [List.map_toArray, List.map_cons, List.map_nil]); first | done | rfl | (simp only [List.length_drop, List.length_take]; rfl)) ?_; (with_reducible refine (ih k1 (by have := HK1.out; omega) _ _ ((rd_T26 l0 x11_1).f2) (wrap64 (a1 - 1)) (wrap64 (a2 - (wrap64 ((wrap64 (x7_1 + 1)) + (((rd_T26 l0 x11_1).f1).size : Int))))) t121 _ ?side1 ?side2 A9.out).mono ?_); (case side1 => repeat (first | exact HR120_2.out | (with_reducible refine Kd.C_alloc ?_ _) | (with_reducible refine Kd.C_drewN ?_ _) | (with_reducible refine Kd.C_drew ?_))); (case side2 => exact HC120_2.out); rintro e w' ⟨rfl, ⟨nd, rfl⟩⟩; refine ⟨_, rfl, ?_⟩))
        go_roundg k1
        case measure => have := HK1.out; omega
        case rel => exact ⟨(wrap64 ((wrap64 ((wrap64 (x7_1 + 1)) + (((rd_T26 l0 x11_1).f1).size : Int))) + t121)), (wrap64 (x11_1 + 1)), (by first | rfl | (simp; done) | (simp [*]; done) | (simp [bne, beq_nil_E]; done)), (by first | rfl | (simp; done) | (simp [*]; done) | (simp [bne, beq_nil_E]; done)), H', ⟨by have := HK1.out; omega⟩, by repeat (first | exact Drawn0.refl _ | apply Drawn0.step)⟩
       ·
        rw [if_neg c8] at H
        exact absurd H (by simp)
      ·
       rw [if_neg c7] at H
       exact absurd H (by simp)
   ·
    rw [if_neg c4] at H
    have c4b0 : decide (x11_1 < (l0.length : Int)) = false := decide_eq_false c4
    clear c4
    obtain rfl := Option.some.inj H
    go_wp2
    go_ret
    exact ⟨by first | rfl | (simp; done) | (simp [*]; done) | (simp [bne, beq_nil_E]; done), by repeat (first | exact Drawn0.refl _ | apply Drawn0.step)⟩

/-! ### emendationref07_Size: function 40 -/
def emendationref07_Size.f (k : Nat) (l0 : List (S26)) (a1 : Int) : Option (Int) := (emendationref07_spend.f k l0 a1 5000).bind fun t122 => (some t122)
set_option maxHeartbeats 8000000 in
set_option maxRecDepth 100000 in
theorem emendationref07_Size.calls (k : Nat) (A0 : Option Addr) (c0 : Nat) (l0 : List (S26)) (a1 : Int) (r : Int) (w : World) (hr0 : Kd.C k26 w A0 l0.length l0) (hc0 : l0.length ≤ c0) (h : emendationref07_Size.f k l0 a1 = some r) :
  Calls Tryd.prog 40 #[.slice A0 l0.length c0, .int .i64 a1] w fun e w' => e = .returned (.int .i64 r) ∧ Drawn0 w w' := by
 have HR0 := Aside0.mk hr0
 have HC0 := Aside0.mk hc0
 clear hr0 hc0
 have H : ((emendationref07_spend.f k l0 a1 5000).bind fun t122 => (some t122)) = some r := h
 clear h
 replace H := Option.bind_eq_some_iff.mp H
 obtain ⟨t122, A30, H⟩ := H
 replace H : (some t122) = some r := H
 have A3 := Aside0.mk A30
 clear A30
 obtain rfl := Option.some.inj H
 go_enter Tryd.func40, Tryd.ntmps40
 go_wp2_with (first | ((with_reducible refine gate_callee (f := 61) rfl ?_); refine goesL_ (some 7) rfl rfl Tryd.func61 (by kernel_rfl) rfl #[.slice A0 l0.length c0, .int .i64 a1, .int .i64 5000] rfl (by (try simp only [List.map_toArray, List.map_cons, List.map_nil]); first | done | rfl | (simp only [List.length_drop, List.length_take]; rfl)) ?_; (with_reducible refine (emendationref07_spend.calls k _ _ l0 a1 5000 t122 _ ?side1 ?side2 A3.out).mono ?_); (case side1 => repeat (first | exact HR0.out | (with_reducible refine Kd.C_alloc ?_ _) | (with_reducible refine Kd.C_drewN ?_ _) | (with_reducible refine Kd.C_drew ?_))); (case side2 => exact HC0.out); rintro e w' ⟨rfl, ⟨nd, rfl⟩⟩; refine ⟨_, rfl, ?_⟩))
 go_ret
 exact ⟨by first | rfl | (simp; done) | (simp [*]; done) | (simp [bne, beq_nil_E]; done), by repeat (first | exact Drawn0.refl _ | apply Drawn0.step)⟩

/-! ### emendationref07_Plain: function 27 -/
mutual
def emendationref07_Plain.l0 : Nat → List (S26) → ByteArray → Int → Int → Option (ByteArray)
 | 0, _, _, _, _ => none
 | k + 1, x0, x3, x6, x7 => if x7 < x6 then (if 0 ≤ x7 then (if x7 < (x0.length : Int) then (if ((rd_T26 x0 x7).f0) = 1 then (if x3.size + ((rd_T26 x0 x7).f1).size ≤ 9223372036854775807 then ((emendationref07_Plain.f k ((rd_T26 x0 x7).f2)).bind fun t126 => (if (x3 ++ ((rd_T26 x0 x7).f1)).size + t126.size ≤ 9223372036854775807 then (emendationref07_Plain.l0 k x0 ((x3 ++ ((rd_T26 x0 x7).f1)) ++ t126) x6 (wrap64 (x7 + 1))) else (none))) else (none)) else (if ((rd_T26 x0 x7).f0) = 2 then (if x3.size + ((rd_T26 x0 x7).f1).size ≤ 9223372036854775807 then ((emendationref07_Plain.f k ((rd_T26 x0 x7).f2)).bind fun t130 => (if (x3 ++ ((rd_T26 x0 x7).f1)).size + t130.size ≤ 9223372036854775807 then (emendationref07_Plain.l0 k x0 ((x3 ++ ((rd_T26 x0 x7).f1)) ++ t130) x6 (wrap64 (x7 + 1))) else (none))) else (none)) else ((emendationref07_Plain.f k ((rd_T26 x0 x7).f2)).bind fun t132 => (if x3.size + t132.size ≤ 9223372036854775807 then (emendationref07_Plain.l0 k x0 (x3 ++ t132) x6 (wrap64 (x7 + 1))) else (none))))) else (none)) else (none)) else (some x3)
def emendationref07_Plain.f : Nat → List (S26) → Option (ByteArray)
 | 0, _ => none
 | k + 1, l0 => emendationref07_Plain.l0 k l0 (⟨#[]⟩ : ByteArray) (l0.length : Int) 0
end
set_option maxHeartbeats 8000000 in
set_option maxRecDepth 100000 in
theorem emendationref07_Plain.calls (k : Nat) : ∀ (A0 : Option Addr) (c0 : Nat) (l0 : List (S26)) (r : ByteArray) (w : World) (hr0 : Kd.C k26 w A0 l0.length l0) (hc0 : l0.length ≤ c0) (h : emendationref07_Plain.f k l0 = some r),
  Calls Tryd.prog 27 #[.slice A0 l0.length c0] w fun e w' => e = .returned (.string r) ∧ Drawn0 w w' := by
 induction k using Nat.strongRecOn with
 | _ k ih =>
 intro A0 c0 l0 r w hr0 hc0 h
 cases k with
 | zero => exact absurd h (by simp [emendationref07_Plain.f])
 | succ k =>
 simp only [emendationref07_Plain.f] at h
 have HR0 := Aside0.mk hr0
 have HC0 := Aside0.mk hc0
 clear hr0 hc0
 have H : (emendationref07_Plain.l0 k l0 (⟨#[]⟩ : ByteArray) (l0.length : Int) 0) = some r := h
 clear h
 have H' := Aside0.mk H
 clear H
 go_enter Tryd.func27, Tryd.ntmps27
 go_wp2
 go_loopg [3, 7] k (fun kq v3 v7 w' => ∃ (x3_1 : ByteArray) (x7_1 : Int), v3 = .string x3_1 ∧ v7 = .int .i64 x7_1 ∧ Aside0 (emendationref07_Plain.l0 kq l0 x3_1 (l0.length : Int) x7_1 = some r) ∧ Aside0 (kq ≤ k) ∧ Drawn0 w w')
 case atStart => exact ⟨((⟨#[]⟩ : ByteArray)), (0), (by first | rfl | (simp; done) | (simp [*]; done) | (simp [bne, beq_nil_E]; done)), (by first | rfl | (simp; done) | (simp [*]; done) | (simp [bne, beq_nil_E]; done)), H', ⟨Nat.le_refl _⟩, by repeat (first | exact Drawn0.refl _ | apply Drawn0.step)⟩
 case round =>
  clear H'
  obtain ⟨x3_1, x7_1, rfl, rfl, HA, HK1, ⟨m1, rfl⟩⟩ := hrel
  cases gk with
  | zero => exact absurd HA.out (by simp [emendationref07_Plain.l0])
  | succ k1 =>
   have H := HA.out
   clear HA
   simp only [emendationref07_Plain.l0] at H
   by_cases c2 : x7_1 < (l0.length : Int)
   ·
    rw [if_pos c2] at H
    have c2b0 : decide (x7_1 < (l0.length : Int)) = true := decide_eq_true c2
    clear c2
    by_cases c3 : 0 ≤ x7_1
    ·
     rw [if_pos c3] at H
     have c3b0 : decide (0 ≤ x7_1) = true := decide_eq_true c3
     clear c3
     by_cases c4 : x7_1 < (l0.length : Int)
     ·
      rw [if_pos c4] at H
      have c4b0 : decide (x7_1 < (l0.length : Int)) = true := decide_eq_true c4
      clear c4
      by_cases c5 : ((rd_T26 l0 x7_1).f0) = 1
      ·
       rw [if_pos c5] at H
       have c5b0 : (((rd_T26 l0 x7_1).f0) == 1) = true := beq_iff_eq.mpr c5
       have c5b1 : (((rd_T26 l0 x7_1).f0) != 1) = false := bne_eq_false_iff_eq.mpr c5
       clear c5
       by_cases c6 : x3_1.size + ((rd_T26 l0 x7_1).f1).size ≤ 9223372036854775807
       ·
        rw [if_pos c6] at H
        have c6b0 := eq_true c6
        have c6b1 : decide (x3_1.size + ((rd_T26 l0 x7_1).f1).size ≤ 9223372036854775807) = true := decide_eq_true c6
        try have c6b2 : (9223372036854775807 < x3_1.size + ((rd_T26 l0 x7_1).f1).size) = False := eq_false (Nat.not_lt.2 c6)
        replace H := Option.bind_eq_some_iff.mp H
        obtain ⟨t126, A70, H⟩ := H
        replace H : (if (x3_1 ++ ((rd_T26 l0 x7_1).f1)).size + t126.size ≤ 9223372036854775807 then (emendationref07_Plain.l0 k1 l0 ((x3_1 ++ ((rd_T26 l0 x7_1).f1)) ++ t126) (l0.length : Int) (wrap64 (x7_1 + 1))) else (none)) = some r := H
        have A7 := Aside0.mk A70
        clear A70
        by_cases c8 : (x3_1 ++ ((rd_T26 l0 x7_1).f1)).size + t126.size ≤ 9223372036854775807
        ·
         rw [if_pos c8] at H
         have c8b0 := eq_true c8
         have c8b1 : decide ((x3_1 ++ ((rd_T26 l0 x7_1).f1)).size + t126.size ≤ 9223372036854775807) = true := decide_eq_true c8
         try have c8b2 : (9223372036854775807 < (x3_1 ++ ((rd_T26 l0 x7_1).f1)).size + t126.size) = False := eq_false (Nat.not_lt.2 c8)
         (try (have c8s := c8; simp only [ByteArray.size_append, lit_size, List.length_cons, List.length_nil, Nat.zero_add, Nat.reduceAdd] at c8s; have c8s0 := eq_true c8s; have c8s1 := decide_eq_true c8s; have c8s2 := eq_false (Nat.not_lt.2 c8s); clear c8s))
         have H' := Aside0.mk H
         clear H
         have p123 : 0 ≤ (x7_1 : Int) := of_decide_eq_true (by first | (with_reducible assumption) | assumption)
         have q123 : x7_1 < (l0.length : Int) := of_decide_eq_true (by first | (with_reducible assumption) | assumption)
         obtain ⟨ad123, A123_2, c123_2, e123, hx123_0, hx123_1, hx123_2, hl123_2, hi123_2⟩ := at_T26 HR0.out x7_1 p123 q123
         cases e123
         have HR123_2 := Aside0.mk hi123_2
         have HC123_2 := Aside0.mk hl123_2
         clear hi123_2 hl123_2
         replace p123 := eq_true p123
         replace q123 := eq_true q123
         have p124 : 0 ≤ (x7_1 : Int) := of_decide_eq_true (by first | (with_reducible assumption) | assumption)
         have q124 : x7_1 < (l0.length : Int) := of_decide_eq_true (by first | (with_reducible assumption) | assumption)
         obtain ⟨ad124, A124_2, c124_2, e124, hx124_0, hx124_1, hx124_2, hl124_2, hi124_2⟩ := at_T26 HR0.out x7_1 p124 q124
         obtain rfl : ad123 = ad124 := (by injection e124)
         have HR124_2 := Aside0.mk hi124_2
         have HC124_2 := Aside0.mk hl124_2
         clear hi124_2 hl124_2
         replace p124 := eq_true p124
         replace q124 := eq_true q124
         have ea_ := Option.some.inj (hx123_2.symm.trans hx124_2)
         injection ea_ with ea_ en_ ec_
         subst ea_
         subst ec_
         clear en_
         have p125 : 0 ≤ (x7_1 : Int) := of_decide_eq_true (by first | (with_reducible assumption) | assumption)
         have q125 : x7_1 < (l0.length : Int) := of_decide_eq_true (by first | (with_reducible assumption) | assumption)
         obtain ⟨ad125, A125_2, c125_2, e125, hx125_0, hx125_1, hx125_2, hl125_2, hi125_2⟩ := at_T26 HR0.out x7_1 p125 q125
         obtain rfl : ad123 = ad125 := (by injection e125)
         have HR125_2 := Aside0.mk hi125_2
         have HC125_2 := Aside0.mk hl125_2
         clear hi125_2 hl125_2
         replace p125 := eq_true p125
         replace q125 := eq_true q125
         have ea_ := Option.some.inj (hx123_2.symm.trans hx125_2)
         injection ea_ with ea_ en_ ec_
         subst ea_
         subst ec_
         clear en_
         go_wp2_with (first | ((with_reducible refine gate_callee (f := 27) rfl ?_); refine goesL_ (some 37) rfl rfl Tryd.func27 (by kernel_rfl) rfl #[.slice A123_2 ((rd_T26 l0 x7_1).f2).length c123_2] rfl (by (try simp only [List.map_toArray, List.map_cons, List.map_nil]); first | done | rfl | (simp only [List.length_drop, List.length_take]; rfl)) ?_; (with_reducible refine (ih k1 (by have := HK1.out; omega) _ _ ((rd_T26 l0 x7_1).f2) t126 _ ?side1 ?side2 A7.out).mono ?_); (case side1 => repeat (first | exact HR125_2.out | (with_reducible refine Kd.C_alloc ?_ _) | (with_reducible refine Kd.C_drewN ?_ _) | (with_reducible refine Kd.C_drew ?_))); (case side2 => exact HC125_2.out); rintro e w' ⟨rfl, ⟨nd, rfl⟩⟩; refine ⟨_, rfl, ?_⟩))
         go_roundg k1
         case measure => have := HK1.out; omega
         case rel => exact ⟨((x3_1 ++ ((rd_T26 l0 x7_1).f1)) ++ t126), (wrap64 (x7_1 + 1)), (by first | rfl | (simp; done) | (simp [*]; done) | (simp [bne, beq_nil_E]; done)), (by first | rfl | (simp; done) | (simp [*]; done) | (simp [bne, beq_nil_E]; done)), H', ⟨by have := HK1.out; omega⟩, by repeat (first | exact Drawn0.refl _ | apply Drawn0.step)⟩
        ·
         rw [if_neg c8] at H
         exact absurd H (by simp)
       ·
        rw [if_neg c6] at H
        exact absurd H (by simp)
      ·
       rw [if_neg c5] at H
       have c5b0 : (((rd_T26 l0 x7_1).f0) == 1) = false := beq_eq_false_iff_ne.mpr c5
       have c5b1 : (((rd_T26 l0 x7_1).f0) != 1) = true := bne_iff_ne.mpr c5
       by_cases c9 : ((rd_T26 l0 x7_1).f0) = 2
       ·
        rw [if_pos c9] at H
        have c9b0 : (((rd_T26 l0 x7_1).f0) == 2) = true := beq_iff_eq.mpr c9
        have c9b1 : (((rd_T26 l0 x7_1).f0) != 2) = false := bne_eq_false_iff_eq.mpr c9
        clear c9
        by_cases c10 : x3_1.size + ((rd_T26 l0 x7_1).f1).size ≤ 9223372036854775807
        ·
         rw [if_pos c10] at H
         have c10b0 := eq_true c10
         have c10b1 : decide (x3_1.size + ((rd_T26 l0 x7_1).f1).size ≤ 9223372036854775807) = true := decide_eq_true c10
         try have c10b2 : (9223372036854775807 < x3_1.size + ((rd_T26 l0 x7_1).f1).size) = False := eq_false (Nat.not_lt.2 c10)
         replace H := Option.bind_eq_some_iff.mp H
         obtain ⟨t130, A110, H⟩ := H
         replace H : (if (x3_1 ++ ((rd_T26 l0 x7_1).f1)).size + t130.size ≤ 9223372036854775807 then (emendationref07_Plain.l0 k1 l0 ((x3_1 ++ ((rd_T26 l0 x7_1).f1)) ++ t130) (l0.length : Int) (wrap64 (x7_1 + 1))) else (none)) = some r := H
         have A11 := Aside0.mk A110
         clear A110
         by_cases c12 : (x3_1 ++ ((rd_T26 l0 x7_1).f1)).size + t130.size ≤ 9223372036854775807
         ·
          rw [if_pos c12] at H
          have c12b0 := eq_true c12
          have c12b1 : decide ((x3_1 ++ ((rd_T26 l0 x7_1).f1)).size + t130.size ≤ 9223372036854775807) = true := decide_eq_true c12
          try have c12b2 : (9223372036854775807 < (x3_1 ++ ((rd_T26 l0 x7_1).f1)).size + t130.size) = False := eq_false (Nat.not_lt.2 c12)
          (try (have c12s := c12; simp only [ByteArray.size_append, lit_size, List.length_cons, List.length_nil, Nat.zero_add, Nat.reduceAdd] at c12s; have c12s0 := eq_true c12s; have c12s1 := decide_eq_true c12s; have c12s2 := eq_false (Nat.not_lt.2 c12s); clear c12s))
          have H' := Aside0.mk H
          clear H
          have p123 : 0 ≤ (x7_1 : Int) := of_decide_eq_true (by first | (with_reducible assumption) | assumption)
          have q123 : x7_1 < (l0.length : Int) := of_decide_eq_true (by first | (with_reducible assumption) | assumption)
          obtain ⟨ad123, A123_2, c123_2, e123, hx123_0, hx123_1, hx123_2, hl123_2, hi123_2⟩ := at_T26 HR0.out x7_1 p123 q123
          cases e123
          have HR123_2 := Aside0.mk hi123_2
          have HC123_2 := Aside0.mk hl123_2
          clear hi123_2 hl123_2
          replace p123 := eq_true p123
          replace q123 := eq_true q123
          have p127 : 0 ≤ (x7_1 : Int) := of_decide_eq_true (by first | (with_reducible assumption) | assumption)
          have q127 : x7_1 < (l0.length : Int) := of_decide_eq_true (by first | (with_reducible assumption) | assumption)
          obtain ⟨ad127, A127_2, c127_2, e127, hx127_0, hx127_1, hx127_2, hl127_2, hi127_2⟩ := at_T26 HR0.out x7_1 p127 q127
          obtain rfl : ad123 = ad127 := (by injection e127)
          have HR127_2 := Aside0.mk hi127_2
          have HC127_2 := Aside0.mk hl127_2
          clear hi127_2 hl127_2
          replace p127 := eq_true p127
          replace q127 := eq_true q127
          have ea_ := Option.some.inj (hx123_2.symm.trans hx127_2)
          injection ea_ with ea_ en_ ec_
          subst ea_
          subst ec_
          clear en_
          have p128 : 0 ≤ (x7_1 : Int) := of_decide_eq_true (by first | (with_reducible assumption) | assumption)
          have q128 : x7_1 < (l0.length : Int) := of_decide_eq_true (by first | (with_reducible assumption) | assumption)
          obtain ⟨ad128, A128_2, c128_2, e128, hx128_0, hx128_1, hx128_2, hl128_2, hi128_2⟩ := at_T26 HR0.out x7_1 p128 q128
          obtain rfl : ad123 = ad128 := (by injection e128)
          have HR128_2 := Aside0.mk hi128_2
          have HC128_2 := Aside0.mk hl128_2
          clear hi128_2 hl128_2
          replace p128 := eq_true p128
          replace q128 := eq_true q128
          have ea_ := Option.some.inj (hx123_2.symm.trans hx128_2)
          injection ea_ with ea_ en_ ec_
          subst ea_
          subst ec_
          clear en_
          have p129 : 0 ≤ (x7_1 : Int) := of_decide_eq_true (by first | (with_reducible assumption) | assumption)
          have q129 : x7_1 < (l0.length : Int) := of_decide_eq_true (by first | (with_reducible assumption) | assumption)
          obtain ⟨ad129, A129_2, c129_2, e129, hx129_0, hx129_1, hx129_2, hl129_2, hi129_2⟩ := at_T26 HR0.out x7_1 p129 q129
          obtain rfl : ad123 = ad129 := (by injection e129)
          have HR129_2 := Aside0.mk hi129_2
          have HC129_2 := Aside0.mk hl129_2
          clear hi129_2 hl129_2
          replace p129 := eq_true p129
          replace q129 := eq_true q129
          have ea_ := Option.some.inj (hx123_2.symm.trans hx129_2)
          injection ea_ with ea_ en_ ec_
          subst ea_
          subst ec_
          clear en_
          go_wp2_with (first | ((with_reducible refine gate_callee (f := 27) rfl ?_); refine goesL_ (some 37) rfl rfl Tryd.func27 (by kernel_rfl) rfl #[.slice A123_2 ((rd_T26 l0 x7_1).f2).length c123_2] rfl (by (try simp only [List.map_toArray, List.map_cons, List.map_nil]); first | done | rfl | (simp only [List.length_drop, List.length_take]; rfl)) ?_; (with_reducible refine (ih k1 (by have := HK1.out; omega) _ _ ((rd_T26 l0 x7_1).f2) t130 _ ?side1 ?side2 A11.out).mono ?_); (case side1 => repeat (first | exact HR129_2.out | (with_reducible refine Kd.C_alloc ?_ _) | (with_reducible refine Kd.C_drewN ?_ _) | (with_reducible refine Kd.C_drew ?_))); (case side2 => exact HC129_2.out); rintro e w' ⟨rfl, ⟨nd, rfl⟩⟩; refine ⟨_, rfl, ?_⟩))
          go_roundg k1
          case measure => have := HK1.out; omega
          case rel => exact ⟨((x3_1 ++ ((rd_T26 l0 x7_1).f1)) ++ t130), (wrap64 (x7_1 + 1)), (by first | rfl | (simp; done) | (simp [*]; done) | (simp [bne, beq_nil_E]; done)), (by first | rfl | (simp; done) | (simp [*]; done) | (simp [bne, beq_nil_E]; done)), H', ⟨by have := HK1.out; omega⟩, by repeat (first | exact Drawn0.refl _ | apply Drawn0.step)⟩
         ·
          rw [if_neg c12] at H
          exact absurd H (by simp)
        ·
         rw [if_neg c10] at H
         exact absurd H (by simp)
       ·
        rw [if_neg c9] at H
        have c9b0 : (((rd_T26 l0 x7_1).f0) == 2) = false := beq_eq_false_iff_ne.mpr c9
        have c9b1 : (((rd_T26 l0 x7_1).f0) != 2) = true := bne_iff_ne.mpr c9
        replace H := Option.bind_eq_some_iff.mp H
        obtain ⟨t132, A130, H⟩ := H
        replace H : (if x3_1.size + t132.size ≤ 9223372036854775807 then (emendationref07_Plain.l0 k1 l0 (x3_1 ++ t132) (l0.length : Int) (wrap64 (x7_1 + 1))) else (none)) = some r := H
        have A13 := Aside0.mk A130
        clear A130
        by_cases c14 : x3_1.size + t132.size ≤ 9223372036854775807
        ·
         rw [if_pos c14] at H
         have c14b0 := eq_true c14
         have c14b1 : decide (x3_1.size + t132.size ≤ 9223372036854775807) = true := decide_eq_true c14
         try have c14b2 : (9223372036854775807 < x3_1.size + t132.size) = False := eq_false (Nat.not_lt.2 c14)
         have H' := Aside0.mk H
         clear H
         have p123 : 0 ≤ (x7_1 : Int) := of_decide_eq_true (by first | (with_reducible assumption) | assumption)
         have q123 : x7_1 < (l0.length : Int) := of_decide_eq_true (by first | (with_reducible assumption) | assumption)
         obtain ⟨ad123, A123_2, c123_2, e123, hx123_0, hx123_1, hx123_2, hl123_2, hi123_2⟩ := at_T26 HR0.out x7_1 p123 q123
         cases e123
         have HR123_2 := Aside0.mk hi123_2
         have HC123_2 := Aside0.mk hl123_2
         clear hi123_2 hl123_2
         replace p123 := eq_true p123
         replace q123 := eq_true q123
         have p127 : 0 ≤ (x7_1 : Int) := of_decide_eq_true (by first | (with_reducible assumption) | assumption)
         have q127 : x7_1 < (l0.length : Int) := of_decide_eq_true (by first | (with_reducible assumption) | assumption)
         obtain ⟨ad127, A127_2, c127_2, e127, hx127_0, hx127_1, hx127_2, hl127_2, hi127_2⟩ := at_T26 HR0.out x7_1 p127 q127
         obtain rfl : ad123 = ad127 := (by injection e127)
         have HR127_2 := Aside0.mk hi127_2
         have HC127_2 := Aside0.mk hl127_2
         clear hi127_2 hl127_2
         replace p127 := eq_true p127
         replace q127 := eq_true q127
         have ea_ := Option.some.inj (hx123_2.symm.trans hx127_2)
         injection ea_ with ea_ en_ ec_
         subst ea_
         subst ec_
         clear en_
         have p131 : 0 ≤ (x7_1 : Int) := of_decide_eq_true (by first | (with_reducible assumption) | assumption)
         have q131 : x7_1 < (l0.length : Int) := of_decide_eq_true (by first | (with_reducible assumption) | assumption)
         obtain ⟨ad131, A131_2, c131_2, e131, hx131_0, hx131_1, hx131_2, hl131_2, hi131_2⟩ := at_T26 HR0.out x7_1 p131 q131
         obtain rfl : ad123 = ad131 := (by injection e131)
         have HR131_2 := Aside0.mk hi131_2
         have HC131_2 := Aside0.mk hl131_2
         clear hi131_2 hl131_2
         replace p131 := eq_true p131
         replace q131 := eq_true q131
         have ea_ := Option.some.inj (hx123_2.symm.trans hx131_2)
         injection ea_ with ea_ en_ ec_
         subst ea_
         subst ec_
         clear en_
         go_wp2_with (first | ((with_reducible refine gate_callee (f := 27) rfl ?_); refine goesL_ (some 37) rfl rfl Tryd.func27 (by kernel_rfl) rfl #[.slice A123_2 ((rd_T26 l0 x7_1).f2).length c123_2] rfl (by (try simp only [List.map_toArray, List.map_cons, List.map_nil]); first | done | rfl | (simp only [List.length_drop, List.length_take]; rfl)) ?_; (with_reducible refine (ih k1 (by have := HK1.out; omega) _ _ ((rd_T26 l0 x7_1).f2) t132 _ ?side1 ?side2 A13.out).mono ?_); (case side1 => repeat (first | exact HR131_2.out | (with_reducible refine Kd.C_alloc ?_ _) | (with_reducible refine Kd.C_drewN ?_ _) | (with_reducible refine Kd.C_drew ?_))); (case side2 => exact HC131_2.out); rintro e w' ⟨rfl, ⟨nd, rfl⟩⟩; refine ⟨_, rfl, ?_⟩))
         go_roundg k1
         case measure => have := HK1.out; omega
         case rel => exact ⟨(x3_1 ++ t132), (wrap64 (x7_1 + 1)), (by first | rfl | (simp; done) | (simp [*]; done) | (simp [bne, beq_nil_E]; done)), (by first | rfl | (simp; done) | (simp [*]; done) | (simp [bne, beq_nil_E]; done)), H', ⟨by have := HK1.out; omega⟩, by repeat (first | exact Drawn0.refl _ | apply Drawn0.step)⟩
        ·
         rw [if_neg c14] at H
         exact absurd H (by simp)
     ·
      rw [if_neg c4] at H
      exact absurd H (by simp)
    ·
     rw [if_neg c3] at H
     exact absurd H (by simp)
   ·
    rw [if_neg c2] at H
    have c2b0 : decide (x7_1 < (l0.length : Int)) = false := decide_eq_false c2
    clear c2
    obtain rfl := Option.some.inj H
    go_wp2
    go_ret
    exact ⟨by first | rfl | (simp; done) | (simp [*]; done) | (simp [bne, beq_nil_E]; done), by repeat (first | exact Drawn0.refl _ | apply Drawn0.step)⟩

/-! ### spanin_reader_is: function 91 -/
def spanin_reader_is.f (a0_0 : ByteArray) (a1 : Int) (a2 : Int) : Option (Bool) := if a1 < (a0_0.size : Int) then (if 0 ≤ a1 then (some ((bt a0_0 a1) == a2)) else (none)) else (some false)
set_option maxHeartbeats 8000000 in
set_option maxRecDepth 100000 in
theorem spanin_reader_is.calls (a0_0 : ByteArray) (a1 : Int) (a2 : Int) (r : Bool) (w : World) (h : spanin_reader_is.f a0_0 a1 a2 = some r) :
  Calls Tryd.prog 91 #[.agg #[.string a0_0], .int .i64 a1, .int .u8 a2] w fun e w' => e = .returned (.bool r) ∧ Below w.heap.size w w' := by
 have hu50 := Tryd.underlying50
 have HB := Aside0.mk (Below.refl w.heap.size w)
 have H : (if a1 < (a0_0.size : Int) then (if 0 ≤ a1 then (some ((bt a0_0 a1) == a2)) else (none)) else (some false)) = some r := h
 clear h
 by_cases c4 : a1 < (a0_0.size : Int)
 ·
  rw [if_pos c4] at H
  have c4b0 : decide (a1 < (a0_0.size : Int)) = true := decide_eq_true c4
  clear c4
  by_cases c5 : 0 ≤ a1
  ·
   rw [if_pos c5] at H
   have c5b0 : decide (0 ≤ a1) = true := decide_eq_true c5
   clear c5
   obtain rfl := Option.some.inj H
   go_enter Tryd.func91, Tryd.ntmps91
   go_wp2_with (first | ((with_reducible refine gate_dst (N := 3) rfl ?_); refine box_event ?hg (N := 3) ?hd (cs := #[.string a0_0]) (t := 50) ?hr ?_; (case hd => rfl); (case hg => rfl); (case hr => first | (go_simp; done) | (go_simp; rfl)); intro gb133 hg w7 hbox hb; have n0_ := Aside0.mk (below_step (by repeat (with_reducible first | exact HB.out | apply below_alloc | apply pw_below_drewN | apply below_drew1)) hb); have n1_ := Aside0.mk (hbox); have n2_ := Aside0.mk ((by rw [hg]; exact (below_size (by repeat (with_reducible first | exact HB.out | apply below_alloc | apply pw_below_drewN | apply below_drew1))) : w.heap.size ≤ gb133)); have n3_ := Aside0.mk ((by rw [hg]; exact (below_size (by repeat (with_reducible first | exact HB.out | apply below_alloc | apply pw_below_drewN | apply below_drew1))) : w.heap.size ≤ gb133)); clear HB; have HB := n0_; have BK133 := n1_; have GW133 := n2_; have GE133 := n3_; clear n0_ n1_ n2_ n3_; clear hb hbox hg; have hcz8_0 : w7.cell? ⟨gb133, 0, none⟩ = some (.string a0_0) := (blk_cell BK133.out 0).trans rfl; have hfz8_0 := blk_frozen BK133.out 0; have p6 : 0 ≤ (a1 : Int) := of_decide_eq_true (by first | (with_reducible assumption) | assumption); have q6 : a1 < (a0_0.size : Int) := of_decide_eq_true (by first | (with_reducible assumption) | assumption); have hx6 := bt_at a0_0 a1; replace p6 := eq_true p6; replace q6 := eq_true q6))
   go_ret
   exact ⟨by first | rfl | (simp [errW_none, errW_some] <;> rfl) | (simp [*, errW_none, errW_some] <;> rfl), by repeat (with_reducible first | exact HB.out | apply below_alloc | apply pw_below_drewN | apply below_drew1 | refine below_set ?_ GE133.out)⟩
  ·
   rw [if_neg c5] at H
   exact absurd H (by simp)
 ·
  rw [if_neg c4] at H
  have c4b0 : decide (a1 < (a0_0.size : Int)) = false := decide_eq_false c4
  clear c4
  obtain rfl := Option.some.inj H
  go_enter Tryd.func91, Tryd.ntmps91
  go_wp2_with (first | ((with_reducible refine gate_dst (N := 3) rfl ?_); refine box_event ?hg (N := 3) ?hd (cs := #[.string a0_0]) (t := 50) ?hr ?_; (case hd => rfl); (case hg => rfl); (case hr => first | (go_simp; done) | (go_simp; rfl)); intro gb133 hg w9 hbox hb; have n0_ := Aside0.mk (below_step (by repeat (with_reducible first | exact HB.out | apply below_alloc | apply pw_below_drewN | apply below_drew1)) hb); have n1_ := Aside0.mk (hbox); have n2_ := Aside0.mk ((by rw [hg]; exact (below_size (by repeat (with_reducible first | exact HB.out | apply below_alloc | apply pw_below_drewN | apply below_drew1))) : w.heap.size ≤ gb133)); have n3_ := Aside0.mk ((by rw [hg]; exact (below_size (by repeat (with_reducible first | exact HB.out | apply below_alloc | apply pw_below_drewN | apply below_drew1))) : w.heap.size ≤ gb133)); clear HB; have HB := n0_; have BK133 := n1_; have GW133 := n2_; have GE133 := n3_; clear n0_ n1_ n2_ n3_; clear hb hbox hg; have hcz10_0 : w9.cell? ⟨gb133, 0, none⟩ = some (.string a0_0) := (blk_cell BK133.out 0).trans rfl; have hfz10_0 := blk_frozen BK133.out 0))
  go_ret
  exact ⟨by first | rfl | (simp [errW_none, errW_some] <;> rfl) | (simp [*, errW_none, errW_some] <;> rfl), by repeat (with_reducible first | exact HB.out | apply below_alloc | apply pw_below_drewN | apply below_drew1 | refine below_set ?_ GE133.out)⟩

-- GIVEN: function 89 (span_Dest)

/-! ### spanin_reader_dest: function 92 -/
def spanin_reader_dest.l0 : Nat → Int → Int → ByteArray → Option (ByteArray × Int × Bool)
 | 0, _, _, _ => none
 | k + 1, x1, x7, x135000 => if x7 < (x135000.size : Int) then (if 0 ≤ x7 then (if x7 ≤ (wrap64 (x7 + 1)) then (if (wrap64 (x7 + 1)) ≤ (x135000.size : Int) then ((span_Dest.f (x135000.extract (x7 : Int).toNat ((wrap64 (x7 + 1)) : Int).toNat)).bind fun t136 => (if t136 = true then (spanin_reader_dest.l0 k x1 (wrap64 (x7 + 1)) x135000) else (if x7 = (wrap64 (x1 + 1)) then (some ((⟨#[]⟩ : ByteArray), x1, false)) else ((spanin_reader_is.f x135000 x7 41).bind fun t137 => (if t137 = true then (if 0 ≤ (wrap64 (x1 + 1)) then (if (wrap64 (x1 + 1)) ≤ x7 then (if x7 ≤ (x135000.size : Int) then (some (x135000.extract ((wrap64 (x1 + 1)) : Int).toNat (x7 : Int).toNat, wrap64 (x7 + 1), true)) else (none)) else (none)) else (none)) else (some ((⟨#[]⟩ : ByteArray), x1, false))))))) else (none)) else (none)) else (none)) else (if x7 = (wrap64 (x1 + 1)) then (some ((⟨#[]⟩ : ByteArray), x1, false)) else ((spanin_reader_is.f x135000 x7 41).bind fun t138 => (if t138 = true then (if 0 ≤ (wrap64 (x1 + 1)) then (if (wrap64 (x1 + 1)) ≤ x7 then (if x7 ≤ (x135000.size : Int) then (some (x135000.extract ((wrap64 (x1 + 1)) : Int).toNat (x7 : Int).toNat, wrap64 (x7 + 1), true)) else (none)) else (none)) else (none)) else (some ((⟨#[]⟩ : ByteArray), x1, false)))))
def spanin_reader_dest.f (k : Nat) (a0_0 : ByteArray) (a1 : Int) : Option (ByteArray × Int × Bool) := (spanin_reader_is.f a0_0 a1 40).bind fun t135 => (if t135 = true then (spanin_reader_dest.l0 k a1 (wrap64 (a1 + 1)) a0_0) else (some ((⟨#[]⟩ : ByteArray), a1, false)))
set_option maxHeartbeats 8000000 in
set_option maxRecDepth 100000 in
theorem spanin_reader_dest.calls (k : Nat) (a0_0 : ByteArray) (a1 : Int) (r1 : ByteArray) (r2 : Int) (r3 : Bool) (w : World) (h : spanin_reader_dest.f k a0_0 a1 = some (r1, r2, r3)) :
  Calls Tryd.prog 92 #[.agg #[.string a0_0], .int .i64 a1] w fun e w' => e = .returned (.tuple #[.string r1, .int .i64 r2, .bool r3]) ∧ Below w.heap.size w w' := by
 have hu50 := Tryd.underlying50
 have HB := Aside0.mk (Below.refl w.heap.size w)
 have H : ((spanin_reader_is.f a0_0 a1 40).bind fun t135 => (if t135 = true then (spanin_reader_dest.l0 k a1 (wrap64 (a1 + 1)) a0_0) else (some ((⟨#[]⟩ : ByteArray), a1, false)))) = some (r1, r2, r3) := h
 clear h
 replace H := Option.bind_eq_some_iff.mp H
 obtain ⟨t135, A30, H⟩ := H
 replace H : (if t135 = true then (spanin_reader_dest.l0 k a1 (wrap64 (a1 + 1)) a0_0) else (some ((⟨#[]⟩ : ByteArray), a1, false))) = some (r1, r2, r3) := H
 have A3 := Aside0.mk A30
 clear A30
 by_cases c4 : t135 = true
 ·
  subst c4
  have H1 : (spanin_reader_dest.l0 k a1 (wrap64 (a1 + 1)) a0_0) = some (r1, r2, r3) := by rw [if_pos rfl] at H; exact H
  clear H
  have H := H1
  clear H1
  have H' := Aside0.mk H
  clear H
  go_enter Tryd.func92, Tryd.ntmps92
  go_wp2_with (first | ((with_reducible refine gate_dst (N := 2) rfl ?_); refine box_event ?hg (N := 2) ?hd (cs := #[.string a0_0]) (t := 50) ?hr ?_; (case hd => rfl); (case hg => rfl); (case hr => first | (go_simp; done) | (go_simp; rfl)); intro gb134 hg w5 hbox hb; have n0_ := Aside0.mk (below_step (by repeat (with_reducible first | exact HB.out | apply below_alloc | apply pw_below_drewN | apply below_drew1)) hb); have n1_ := Aside0.mk (hbox); have n2_ := Aside0.mk ((by rw [hg]; exact (below_size (by repeat (with_reducible first | exact HB.out | apply below_alloc | apply pw_below_drewN | apply below_drew1))) : w.heap.size ≤ gb134)); have n3_ := Aside0.mk ((by rw [hg]; exact (below_size (by repeat (with_reducible first | exact HB.out | apply below_alloc | apply pw_below_drewN | apply below_drew1))) : w.heap.size ≤ gb134)); clear HB; have HB := n0_; have BK134 := n1_; have GW134 := n2_; have GE134 := n3_; clear n0_ n1_ n2_ n3_; clear hb hbox hg; have hcz6_0 : w5.cell? ⟨gb134, 0, none⟩ = some (.string a0_0) := (blk_cell BK134.out 0).trans rfl; have hfz6_0 := blk_frozen BK134.out 0) | ((with_reducible refine gate_callee (f := 91) rfl ?_); refine goesL_ (some 10) rfl rfl Tryd.func91 (by kernel_rfl) rfl #[.agg #[.string a0_0], .int .i64 a1, .int .u8 40] rfl (by (try simp only [List.map_toArray, List.map_cons, List.map_nil]); first | done | rfl | (simp only [List.length_drop, List.length_take]; rfl)) ?_; (with_reducible refine (spanin_reader_is.calls a0_0 a1 40 true _ A3.out).mono ?_); rintro e w7 ⟨rfl, hb⟩; refine ⟨_, rfl, ?_⟩; have n0_ := Aside0.mk (blk_below (g := gb134) (o := .cells #[.string a0_0] 50 (0, 0)) (by (with_reducible repeat (first | refine blk_drewN ?_ _ | refine blk_drew ?_ | refine blk_alloc ?_ _)); exact BK134.out) hb); have n1_ := Aside0.mk (below_step (by repeat (with_reducible first | exact HB.out | apply below_alloc | apply pw_below_drewN | apply below_drew1 | refine below_set ?_ GE134.out)) hb); clear BK134; clear HB; have BK134 := n0_; have HB := n1_; clear n0_ n1_; (try clear hb); (try clear hb2); (try clear hk); (try clear hi)))
  go_loopg [7] k (fun kq v7 w' => ∃ (x7_1 : Int), v7 = .int .i64 x7_1 ∧ Aside0 (spanin_reader_dest.l0 kq a1 x7_1 a0_0 = some (r1, r2, r3)) ∧ Aside0 (kq ≤ k) ∧ Aside0 (w'.heap[gb134]? = some (.cells #[.string a0_0] 50 (0, 0))) ∧ Aside0 (Below w.heap.size w w'))
  case atStart => exact ⟨(wrap64 (a1 + 1)), (by first | rfl | (simp; done) | (simp [*]; done) | (simp [bne, beq_nil_E]; done)), H', ⟨Nat.le_refl _⟩, ⟨by (with_reducible repeat (first | refine blk_drewN ?_ _ | refine blk_drew ?_ | refine blk_alloc ?_ _)); exact BK134.out⟩, ⟨by repeat (with_reducible first | exact HB.out | apply below_alloc | apply pw_below_drewN | apply below_drew1 | refine below_set ?_ GE134.out)⟩⟩
  case round =>
   clear H'
   try clear p2
   try clear c4
   try clear p6
   try clear hcz6_0
   try clear hfz6_0
   obtain ⟨x7_1, rfl, HA, HK1, BK134, HB⟩ := hrel
   cases gk with
   | zero => exact absurd HA.out (by simp [spanin_reader_dest.l0])
   | succ k1 =>
    have H := HA.out
    clear HA
    simp only [spanin_reader_dest.l0] at H
    by_cases c8 : x7_1 < (a0_0.size : Int)
    ·
     rw [if_pos c8] at H
     have c8b0 : decide (x7_1 < (a0_0.size : Int)) = true := decide_eq_true c8
     clear c8
     by_cases c9 : 0 ≤ x7_1
     ·
      rw [if_pos c9] at H
      have c9b0 := eq_true c9
      have c9b1 : decide (0 ≤ x7_1) = true := decide_eq_true c9
      clear c9
      by_cases c10 : x7_1 ≤ (wrap64 (x7_1 + 1))
      ·
       rw [if_pos c10] at H
       have c10b0 := eq_true c10
       have c10b1 : decide (x7_1 ≤ (wrap64 (x7_1 + 1))) = true := decide_eq_true c10
       by_cases c11 : (wrap64 (x7_1 + 1)) ≤ (a0_0.size : Int)
       ·
        rw [if_pos c11] at H
        have c11b0 := eq_true c11
        have c11b1 : decide ((wrap64 (x7_1 + 1)) ≤ (a0_0.size : Int)) = true := decide_eq_true c11
        replace H := Option.bind_eq_some_iff.mp H
        obtain ⟨t136, A120, H⟩ := H
        replace H : (if t136 = true then (spanin_reader_dest.l0 k1 a1 (wrap64 (x7_1 + 1)) a0_0) else (if x7_1 = (wrap64 (a1 + 1)) then (some ((⟨#[]⟩ : ByteArray), a1, false)) else ((spanin_reader_is.f a0_0 x7_1 41).bind fun t137 => (if t137 = true then (if 0 ≤ (wrap64 (a1 + 1)) then (if (wrap64 (a1 + 1)) ≤ x7_1 then (if x7_1 ≤ (a0_0.size : Int) then (some (a0_0.extract ((wrap64 (a1 + 1)) : Int).toNat (x7_1 : Int).toNat, wrap64 (x7_1 + 1), true)) else (none)) else (none)) else (none)) else (some ((⟨#[]⟩ : ByteArray), a1, false)))))) = some (r1, r2, r3) := H
        have A12 := Aside0.mk A120
        clear A120
        by_cases c13 : t136 = true
        ·
         subst c13
         have H1 : (spanin_reader_dest.l0 k1 a1 (wrap64 (x7_1 + 1)) a0_0) = some (r1, r2, r3) := by rw [if_pos rfl] at H; exact H
         clear H
         have H := H1
         clear H1
         have H' := Aside0.mk H
         clear H
         have hcz14_0 : wr.cell? ⟨gb134, 0, none⟩ = some (.string a0_0) := (blk_cell BK134.out 0).trans rfl
         have hfz14_0 := blk_frozen BK134.out 0
         have tkA12 : True := trivial
         go_wp2_with (first | (go_at_call 89; clear tkA12; (with_reducible refine (span_Dest.calls (a0_0.extract (x7_1 : Int).toNat ((wrap64 (x7_1 + 1)) : Int).toNat) true _ A12.out).mono ?_); rintro e w15 ⟨rfl, hb⟩; have n0_ := Aside0.mk (blk_below (g := gb134) (o := .cells #[.string a0_0] 50 (0, 0)) (by (with_reducible repeat (first | refine blk_drewN ?_ _ | refine blk_drew ?_ | refine blk_alloc ?_ _)); exact BK134.out) hb); have n1_ := Aside0.mk (below_step (by repeat (with_reducible first | exact HB.out | apply below_alloc | apply pw_below_drewN | apply below_drew1 | refine below_set ?_ GE134.out)) hb); clear BK134; clear HB; have BK134 := n0_; have HB := n1_; clear n0_ n1_; (try clear hb); (try clear hb2); (try clear hk); (try clear hi)))
         go_roundg k1
         case measure => have := HK1.out; omega
         case rel => exact ⟨(wrap64 (x7_1 + 1)), (by first | rfl | (simp; done) | (simp [*]; done) | (simp [bne, beq_nil_E]; done)), H', ⟨by have := HK1.out; omega⟩, ⟨by (with_reducible repeat (first | refine blk_drewN ?_ _ | refine blk_drew ?_ | refine blk_alloc ?_ _)); exact BK134.out⟩, ⟨by repeat (with_reducible first | exact HB.out | apply below_alloc | apply pw_below_drewN | apply below_drew1 | refine below_set ?_ GE134.out)⟩⟩
        ·
         replace c13 := Bool.eq_false_iff.mpr c13
         subst c13
         have H1 : (if x7_1 = (wrap64 (a1 + 1)) then (some ((⟨#[]⟩ : ByteArray), a1, false)) else ((spanin_reader_is.f a0_0 x7_1 41).bind fun t137 => (if t137 = true then (if 0 ≤ (wrap64 (a1 + 1)) then (if (wrap64 (a1 + 1)) ≤ x7_1 then (if x7_1 ≤ (a0_0.size : Int) then (some (a0_0.extract ((wrap64 (a1 + 1)) : Int).toNat (x7_1 : Int).toNat, wrap64 (x7_1 + 1), true)) else (none)) else (none)) else (none)) else (some ((⟨#[]⟩ : ByteArray), a1, false))))) = some (r1, r2, r3) := by rw [if_neg (show ¬ (false = true) by decide)] at H; exact H
         clear H
         have H := H1
         clear H1
         by_cases c16 : x7_1 = (wrap64 (a1 + 1))
         ·
          rw [if_pos c16] at H
          have c16b0 : (x7_1 == (wrap64 (a1 + 1))) = true := beq_iff_eq.mpr c16
          have c16b1 : (x7_1 != (wrap64 (a1 + 1))) = false := bne_eq_false_iff_eq.mpr c16
          clear c16
          simp only [Option.some.injEq, Prod.mk.injEq] at H
          obtain ⟨rfl, rfl, rfl⟩ := H
          have hcz17_0 : wr.cell? ⟨gb134, 0, none⟩ = some (.string a0_0) := (blk_cell BK134.out 0).trans rfl
          have hfz17_0 := blk_frozen BK134.out 0
          have tkA12 : True := trivial
          go_wp2_with (first | (go_at_call 89; clear tkA12; (with_reducible refine (span_Dest.calls (a0_0.extract (x7_1 : Int).toNat ((wrap64 (x7_1 + 1)) : Int).toNat) false _ A12.out).mono ?_); rintro e w18 ⟨rfl, hb⟩; have n0_ := Aside0.mk (blk_below (g := gb134) (o := .cells #[.string a0_0] 50 (0, 0)) (by (with_reducible repeat (first | refine blk_drewN ?_ _ | refine blk_drew ?_ | refine blk_alloc ?_ _)); exact BK134.out) hb); have n1_ := Aside0.mk (below_step (by repeat (with_reducible first | exact HB.out | apply below_alloc | apply pw_below_drewN | apply below_drew1 | refine below_set ?_ GE134.out)) hb); clear BK134; clear HB; have BK134 := n0_; have HB := n1_; clear n0_ n1_; (try clear hb); (try clear hb2); (try clear hk); (try clear hi)))
          go_ret3
          exact ⟨by first | rfl | (simp [errW_none, errW_some] <;> rfl) | (simp [*, errW_none, errW_some] <;> rfl), by repeat (with_reducible first | exact HB.out | apply below_alloc | apply pw_below_drewN | apply below_drew1 | refine below_set ?_ GE134.out)⟩
         ·
          rw [if_neg c16] at H
          have c16b0 : (x7_1 == (wrap64 (a1 + 1))) = false := beq_eq_false_iff_ne.mpr c16
          have c16b1 : (x7_1 != (wrap64 (a1 + 1))) = true := bne_iff_ne.mpr c16
          replace H := Option.bind_eq_some_iff.mp H
          obtain ⟨t137, A190, H⟩ := H
          replace H : (if t137 = true then (if 0 ≤ (wrap64 (a1 + 1)) then (if (wrap64 (a1 + 1)) ≤ x7_1 then (if x7_1 ≤ (a0_0.size : Int) then (some (a0_0.extract ((wrap64 (a1 + 1)) : Int).toNat (x7_1 : Int).toNat, wrap64 (x7_1 + 1), true)) else (none)) else (none)) else (none)) else (some ((⟨#[]⟩ : ByteArray), a1, false))) = some (r1, r2, r3) := H
          have A19 := Aside0.mk A190
          clear A190
          by_cases c20 : t137 = true
          ·
           subst c20
           have H1 : (if 0 ≤ (wrap64 (a1 + 1)) then (if (wrap64 (a1 + 1)) ≤ x7_1 then (if x7_1 ≤ (a0_0.size : Int) then (some (a0_0.extract ((wrap64 (a1 + 1)) : Int).toNat (x7_1 : Int).toNat, wrap64 (x7_1 + 1), true)) else (none)) else (none)) else (none)) = some (r1, r2, r3) := by rw [if_pos rfl] at H; exact H
           clear H
           have H := H1
           clear H1
           obtain ⟨ji21, hji21⟩ : ∃ j_ : Int, (wrap64 (a1 + 1)) = j_ := ⟨_, rfl⟩
           replace H : (if 0 ≤ (ji21) then (if (ji21) ≤ x7_1 then (if x7_1 ≤ (a0_0.size : Int) then (some (a0_0.extract ((ji21) : Int).toNat (x7_1 : Int).toNat, wrap64 (x7_1 + 1), true)) else (none)) else (none)) else (none)) = some (r1, r2, r3) := by first | (rw [hji21] at H; exact H) | (simp only [hji21] at H ⊢; exact H)
           (try rw [hji21] at c16b0)
           (try rw [hji21] at c16b1)
           (try rw [hji21] at A12)
           (try rw [hji21] at A19)
           have hji21w : (IntKind.i64.wrap (a1 + 1)) = ji21 := (i64_w _).trans hji21
           by_cases c22 : 0 ≤ (ji21)
           ·
            rw [if_pos c22] at H
            have c22b0 := eq_true c22
            have c22b1 : decide (0 ≤ (ji21)) = true := decide_eq_true c22
            clear c22
            by_cases c23 : (ji21) ≤ x7_1
            ·
             rw [if_pos c23] at H
             have c23b0 := eq_true c23
             have c23b1 : decide ((ji21) ≤ x7_1) = true := decide_eq_true c23
             clear c23
             by_cases c24 : x7_1 ≤ (a0_0.size : Int)
             ·
              rw [if_pos c24] at H
              have c24b0 := eq_true c24
              have c24b1 : decide (x7_1 ≤ (a0_0.size : Int)) = true := decide_eq_true c24
              clear c24
              simp only [Option.some.injEq, Prod.mk.injEq] at H
              obtain ⟨rfl, rfl, rfl⟩ := H
              have hcz25_0 : wr.cell? ⟨gb134, 0, none⟩ = some (.string a0_0) := (blk_cell BK134.out 0).trans rfl
              have hfz25_0 := blk_frozen BK134.out 0
              have tkA12 : True := trivial
              go_wp2_with (first | (go_at_call 89; clear tkA12; (with_reducible refine (span_Dest.calls (a0_0.extract (x7_1 : Int).toNat ((wrap64 (x7_1 + 1)) : Int).toNat) false _ A12.out).mono ?_); rintro e w26 ⟨rfl, hb⟩; have n0_ := Aside0.mk (blk_below (g := gb134) (o := .cells #[.string a0_0] 50 (0, 0)) (by (with_reducible repeat (first | refine blk_drewN ?_ _ | refine blk_drew ?_ | refine blk_alloc ?_ _)); exact BK134.out) hb); have n1_ := Aside0.mk (below_step (by repeat (with_reducible first | exact HB.out | apply below_alloc | apply pw_below_drewN | apply below_drew1 | refine below_set ?_ GE134.out)) hb); clear BK134; clear HB; have BK134 := n0_; have HB := n1_; clear n0_ n1_; (try clear hb); (try clear hb2); (try clear hk); (try clear hi); have hcz27_0 : w26.cell? ⟨gb134, 0, none⟩ = some (.string a0_0) := (blk_cell BK134.out 0).trans rfl; have hfz27_0 := blk_frozen BK134.out 0; have tkA19 : True := trivial) | (go_at_call 91; clear tkA19; (with_reducible refine (spanin_reader_is.calls a0_0 x7_1 41 true _ A19.out).mono ?_); rintro e w28 ⟨rfl, hb⟩; have n0_ := Aside0.mk (blk_below (g := gb134) (o := .cells #[.string a0_0] 50 (0, 0)) (by (with_reducible repeat (first | refine blk_drewN ?_ _ | refine blk_drew ?_ | refine blk_alloc ?_ _)); exact BK134.out) hb); have n1_ := Aside0.mk (below_step (by repeat (with_reducible first | exact HB.out | apply below_alloc | apply pw_below_drewN | apply below_drew1 | refine below_set ?_ GE134.out)) hb); clear BK134; clear HB; have BK134 := n0_; have HB := n1_; clear n0_ n1_; (try clear hb); (try clear hb2); (try clear hk); (try clear hi); have hcz29_0 : w28.cell? ⟨gb134, 0, none⟩ = some (.string a0_0) := (blk_cell BK134.out 0).trans rfl; have hfz29_0 := blk_frozen BK134.out 0))
              go_ret3
              exact ⟨by first | rfl | (simp [errW_none, errW_some] <;> rfl) | (simp only [← hji21]; first | rfl | (simp [errW_none, errW_some] <;> rfl)) | (simp [*, errW_none, errW_some] <;> rfl), by repeat (with_reducible first | exact HB.out | apply below_alloc | apply pw_below_drewN | apply below_drew1 | refine below_set ?_ GE134.out)⟩
             ·
              rw [if_neg c24] at H
              exact absurd H (by simp)
            ·
             rw [if_neg c23] at H
             exact absurd H (by simp)
           ·
            rw [if_neg c22] at H
            exact absurd H (by simp)
          ·
           replace c20 := Bool.eq_false_iff.mpr c20
           subst c20
           have H1 : (some ((⟨#[]⟩ : ByteArray), a1, false)) = some (r1, r2, r3) := by rw [if_neg (show ¬ (false = true) by decide)] at H; exact H
           clear H
           have H := H1
           clear H1
           simp only [Option.some.injEq, Prod.mk.injEq] at H
           obtain ⟨rfl, rfl, rfl⟩ := H
           have hcz30_0 : wr.cell? ⟨gb134, 0, none⟩ = some (.string a0_0) := (blk_cell BK134.out 0).trans rfl
           have hfz30_0 := blk_frozen BK134.out 0
           have tkA12 : True := trivial
           go_wp2_with (first | (go_at_call 89; clear tkA12; (with_reducible refine (span_Dest.calls (a0_0.extract (x7_1 : Int).toNat ((wrap64 (x7_1 + 1)) : Int).toNat) false _ A12.out).mono ?_); rintro e w31 ⟨rfl, hb⟩; have n0_ := Aside0.mk (blk_below (g := gb134) (o := .cells #[.string a0_0] 50 (0, 0)) (by (with_reducible repeat (first | refine blk_drewN ?_ _ | refine blk_drew ?_ | refine blk_alloc ?_ _)); exact BK134.out) hb); have n1_ := Aside0.mk (below_step (by repeat (with_reducible first | exact HB.out | apply below_alloc | apply pw_below_drewN | apply below_drew1 | refine below_set ?_ GE134.out)) hb); clear BK134; clear HB; have BK134 := n0_; have HB := n1_; clear n0_ n1_; (try clear hb); (try clear hb2); (try clear hk); (try clear hi); have hcz32_0 : w31.cell? ⟨gb134, 0, none⟩ = some (.string a0_0) := (blk_cell BK134.out 0).trans rfl; have hfz32_0 := blk_frozen BK134.out 0; have tkA19 : True := trivial) | (go_at_call 91; clear tkA19; (with_reducible refine (spanin_reader_is.calls a0_0 x7_1 41 false _ A19.out).mono ?_); rintro e w33 ⟨rfl, hb⟩; have n0_ := Aside0.mk (blk_below (g := gb134) (o := .cells #[.string a0_0] 50 (0, 0)) (by (with_reducible repeat (first | refine blk_drewN ?_ _ | refine blk_drew ?_ | refine blk_alloc ?_ _)); exact BK134.out) hb); have n1_ := Aside0.mk (below_step (by repeat (with_reducible first | exact HB.out | apply below_alloc | apply pw_below_drewN | apply below_drew1 | refine below_set ?_ GE134.out)) hb); clear BK134; clear HB; have BK134 := n0_; have HB := n1_; clear n0_ n1_; (try clear hb); (try clear hb2); (try clear hk); (try clear hi)))
           go_ret3
           exact ⟨by first | rfl | (simp [errW_none, errW_some] <;> rfl) | (simp [*, errW_none, errW_some] <;> rfl), by repeat (with_reducible first | exact HB.out | apply below_alloc | apply pw_below_drewN | apply below_drew1 | refine below_set ?_ GE134.out)⟩
       ·
        rw [if_neg c11] at H
        exact absurd H (by simp)
      ·
       rw [if_neg c10] at H
       exact absurd H (by simp)
     ·
      rw [if_neg c9] at H
      exact absurd H (by simp)
    ·
     rw [if_neg c8] at H
     have c8b0 : decide (x7_1 < (a0_0.size : Int)) = false := decide_eq_false c8
     clear c8
     by_cases c34 : x7_1 = (wrap64 (a1 + 1))
     ·
      rw [if_pos c34] at H
      have c34b0 : (x7_1 == (wrap64 (a1 + 1))) = true := beq_iff_eq.mpr c34
      have c34b1 : (x7_1 != (wrap64 (a1 + 1))) = false := bne_eq_false_iff_eq.mpr c34
      clear c34
      simp only [Option.some.injEq, Prod.mk.injEq] at H
      obtain ⟨rfl, rfl, rfl⟩ := H
      have hcz35_0 : wr.cell? ⟨gb134, 0, none⟩ = some (.string a0_0) := (blk_cell BK134.out 0).trans rfl
      have hfz35_0 := blk_frozen BK134.out 0
      go_wp2
      go_ret3
      exact ⟨by first | rfl | (simp [errW_none, errW_some] <;> rfl) | (simp [*, errW_none, errW_some] <;> rfl), by repeat (with_reducible first | exact HB.out | apply below_alloc | apply pw_below_drewN | apply below_drew1 | refine below_set ?_ GE134.out)⟩
     ·
      rw [if_neg c34] at H
      have c34b0 : (x7_1 == (wrap64 (a1 + 1))) = false := beq_eq_false_iff_ne.mpr c34
      have c34b1 : (x7_1 != (wrap64 (a1 + 1))) = true := bne_iff_ne.mpr c34
      replace H := Option.bind_eq_some_iff.mp H
      obtain ⟨t138, A360, H⟩ := H
      replace H : (if t138 = true then (if 0 ≤ (wrap64 (a1 + 1)) then (if (wrap64 (a1 + 1)) ≤ x7_1 then (if x7_1 ≤ (a0_0.size : Int) then (some (a0_0.extract ((wrap64 (a1 + 1)) : Int).toNat (x7_1 : Int).toNat, wrap64 (x7_1 + 1), true)) else (none)) else (none)) else (none)) else (some ((⟨#[]⟩ : ByteArray), a1, false))) = some (r1, r2, r3) := H
      have A36 := Aside0.mk A360
      clear A360
      by_cases c37 : t138 = true
      ·
       subst c37
       have H1 : (if 0 ≤ (wrap64 (a1 + 1)) then (if (wrap64 (a1 + 1)) ≤ x7_1 then (if x7_1 ≤ (a0_0.size : Int) then (some (a0_0.extract ((wrap64 (a1 + 1)) : Int).toNat (x7_1 : Int).toNat, wrap64 (x7_1 + 1), true)) else (none)) else (none)) else (none)) = some (r1, r2, r3) := by rw [if_pos rfl] at H; exact H
       clear H
       have H := H1
       clear H1
       obtain ⟨ji38, hji38⟩ : ∃ j_ : Int, (wrap64 (a1 + 1)) = j_ := ⟨_, rfl⟩
       replace H : (if 0 ≤ (ji38) then (if (ji38) ≤ x7_1 then (if x7_1 ≤ (a0_0.size : Int) then (some (a0_0.extract ((ji38) : Int).toNat (x7_1 : Int).toNat, wrap64 (x7_1 + 1), true)) else (none)) else (none)) else (none)) = some (r1, r2, r3) := by first | (rw [hji38] at H; exact H) | (simp only [hji38] at H ⊢; exact H)
       (try rw [hji38] at c34b0)
       (try rw [hji38] at c34b1)
       (try rw [hji38] at A36)
       have hji38w : (IntKind.i64.wrap (a1 + 1)) = ji38 := (i64_w _).trans hji38
       by_cases c39 : 0 ≤ (ji38)
       ·
        rw [if_pos c39] at H
        have c39b0 := eq_true c39
        have c39b1 : decide (0 ≤ (ji38)) = true := decide_eq_true c39
        clear c39
        by_cases c40 : (ji38) ≤ x7_1
        ·
         rw [if_pos c40] at H
         have c40b0 := eq_true c40
         have c40b1 : decide ((ji38) ≤ x7_1) = true := decide_eq_true c40
         clear c40
         by_cases c41 : x7_1 ≤ (a0_0.size : Int)
         ·
          rw [if_pos c41] at H
          have c41b0 := eq_true c41
          have c41b1 : decide (x7_1 ≤ (a0_0.size : Int)) = true := decide_eq_true c41
          clear c41
          simp only [Option.some.injEq, Prod.mk.injEq] at H
          obtain ⟨rfl, rfl, rfl⟩ := H
          have hcz42_0 : wr.cell? ⟨gb134, 0, none⟩ = some (.string a0_0) := (blk_cell BK134.out 0).trans rfl
          have hfz42_0 := blk_frozen BK134.out 0
          have tkA36 : True := trivial
          go_wp2_with (first | (go_at_call 91; clear tkA36; (with_reducible refine (spanin_reader_is.calls a0_0 x7_1 41 true _ A36.out).mono ?_); rintro e w43 ⟨rfl, hb⟩; have n0_ := Aside0.mk (blk_below (g := gb134) (o := .cells #[.string a0_0] 50 (0, 0)) (by (with_reducible repeat (first | refine blk_drewN ?_ _ | refine blk_drew ?_ | refine blk_alloc ?_ _)); exact BK134.out) hb); have n1_ := Aside0.mk (below_step (by repeat (with_reducible first | exact HB.out | apply below_alloc | apply pw_below_drewN | apply below_drew1 | refine below_set ?_ GE134.out)) hb); clear BK134; clear HB; have BK134 := n0_; have HB := n1_; clear n0_ n1_; (try clear hb); (try clear hb2); (try clear hk); (try clear hi); have hcz44_0 : w43.cell? ⟨gb134, 0, none⟩ = some (.string a0_0) := (blk_cell BK134.out 0).trans rfl; have hfz44_0 := blk_frozen BK134.out 0))
          go_ret3
          exact ⟨by first | rfl | (simp [errW_none, errW_some] <;> rfl) | (simp only [← hji38]; first | rfl | (simp [errW_none, errW_some] <;> rfl)) | (simp [*, errW_none, errW_some] <;> rfl), by repeat (with_reducible first | exact HB.out | apply below_alloc | apply pw_below_drewN | apply below_drew1 | refine below_set ?_ GE134.out)⟩
         ·
          rw [if_neg c41] at H
          exact absurd H (by simp)
        ·
         rw [if_neg c40] at H
         exact absurd H (by simp)
       ·
        rw [if_neg c39] at H
        exact absurd H (by simp)
      ·
       replace c37 := Bool.eq_false_iff.mpr c37
       subst c37
       have H1 : (some ((⟨#[]⟩ : ByteArray), a1, false)) = some (r1, r2, r3) := by rw [if_neg (show ¬ (false = true) by decide)] at H; exact H
       clear H
       have H := H1
       clear H1
       simp only [Option.some.injEq, Prod.mk.injEq] at H
       obtain ⟨rfl, rfl, rfl⟩ := H
       have hcz45_0 : wr.cell? ⟨gb134, 0, none⟩ = some (.string a0_0) := (blk_cell BK134.out 0).trans rfl
       have hfz45_0 := blk_frozen BK134.out 0
       have tkA36 : True := trivial
       go_wp2_with (first | (go_at_call 91; clear tkA36; (with_reducible refine (spanin_reader_is.calls a0_0 x7_1 41 false _ A36.out).mono ?_); rintro e w46 ⟨rfl, hb⟩; have n0_ := Aside0.mk (blk_below (g := gb134) (o := .cells #[.string a0_0] 50 (0, 0)) (by (with_reducible repeat (first | refine blk_drewN ?_ _ | refine blk_drew ?_ | refine blk_alloc ?_ _)); exact BK134.out) hb); have n1_ := Aside0.mk (below_step (by repeat (with_reducible first | exact HB.out | apply below_alloc | apply pw_below_drewN | apply below_drew1 | refine below_set ?_ GE134.out)) hb); clear BK134; clear HB; have BK134 := n0_; have HB := n1_; clear n0_ n1_; (try clear hb); (try clear hb2); (try clear hk); (try clear hi)))
       go_ret3
       exact ⟨by first | rfl | (simp [errW_none, errW_some] <;> rfl) | (simp [*, errW_none, errW_some] <;> rfl), by repeat (with_reducible first | exact HB.out | apply below_alloc | apply pw_below_drewN | apply below_drew1 | refine below_set ?_ GE134.out)⟩
 ·
  replace c4 := Bool.eq_false_iff.mpr c4
  subst c4
  have H1 : (some ((⟨#[]⟩ : ByteArray), a1, false)) = some (r1, r2, r3) := by rw [if_neg (show ¬ (false = true) by decide)] at H; exact H
  clear H
  have H := H1
  clear H1
  simp only [Option.some.injEq, Prod.mk.injEq] at H
  obtain ⟨rfl, rfl, rfl⟩ := H
  go_enter Tryd.func92, Tryd.ntmps92
  go_wp2_with (first | ((with_reducible refine gate_dst (N := 2) rfl ?_); refine box_event ?hg (N := 2) ?hd (cs := #[.string a0_0]) (t := 50) ?hr ?_; (case hd => rfl); (case hg => rfl); (case hr => first | (go_simp; done) | (go_simp; rfl)); intro gb134 hg w47 hbox hb; have n0_ := Aside0.mk (below_step (by repeat (with_reducible first | exact HB.out | apply below_alloc | apply pw_below_drewN | apply below_drew1)) hb); have n1_ := Aside0.mk (hbox); have n2_ := Aside0.mk ((by rw [hg]; exact (below_size (by repeat (with_reducible first | exact HB.out | apply below_alloc | apply pw_below_drewN | apply below_drew1))) : w.heap.size ≤ gb134)); have n3_ := Aside0.mk ((by rw [hg]; exact (below_size (by repeat (with_reducible first | exact HB.out | apply below_alloc | apply pw_below_drewN | apply below_drew1))) : w.heap.size ≤ gb134)); clear HB; have HB := n0_; have BK134 := n1_; have GW134 := n2_; have GE134 := n3_; clear n0_ n1_ n2_ n3_; clear hb hbox hg; have hcz48_0 : w47.cell? ⟨gb134, 0, none⟩ = some (.string a0_0) := (blk_cell BK134.out 0).trans rfl; have hfz48_0 := blk_frozen BK134.out 0) | ((with_reducible refine gate_callee (f := 91) rfl ?_); refine goesL_ (some 10) rfl rfl Tryd.func91 (by kernel_rfl) rfl #[.agg #[.string a0_0], .int .i64 a1, .int .u8 40] rfl (by (try simp only [List.map_toArray, List.map_cons, List.map_nil]); first | done | rfl | (simp only [List.length_drop, List.length_take]; rfl)) ?_; (with_reducible refine (spanin_reader_is.calls a0_0 a1 40 false _ A3.out).mono ?_); rintro e w49 ⟨rfl, hb⟩; refine ⟨_, rfl, ?_⟩; have n0_ := Aside0.mk (blk_below (g := gb134) (o := .cells #[.string a0_0] 50 (0, 0)) (by (with_reducible repeat (first | refine blk_drewN ?_ _ | refine blk_drew ?_ | refine blk_alloc ?_ _)); exact BK134.out) hb); have n1_ := Aside0.mk (below_step (by repeat (with_reducible first | exact HB.out | apply below_alloc | apply pw_below_drewN | apply below_drew1 | refine below_set ?_ GE134.out)) hb); clear BK134; clear HB; have BK134 := n0_; have HB := n1_; clear n0_ n1_; (try clear hb); (try clear hb2); (try clear hk); (try clear hi)))
  go_ret3
  exact ⟨by first | rfl | (simp [errW_none, errW_some] <;> rfl) | (simp [*, errW_none, errW_some] <;> rfl), by repeat (with_reducible first | exact HB.out | apply below_alloc | apply pw_below_drewN | apply below_drew1 | refine below_set ?_ GE134.out)⟩

/-! ### lines_Run: function 51 -/
def lines_Run.l0 : Nat → ByteArray → Int → Int → Option (Int)
 | 0, _, _, _ => none
 | k + 1, x0, x1, x5 => if x5 < (x0.size : Int) then (if 0 ≤ x5 then (if (bt x0 x5) = x1 then (lines_Run.l0 k x0 x1 (wrap64 (x5 + 1))) else (some x5)) else (none)) else (some x5)
def lines_Run.f (k : Nat) (a0 : ByteArray) (a1 : Int) : Option (Int) := lines_Run.l0 k a0 a1 0
set_option maxHeartbeats 8000000 in
set_option maxRecDepth 100000 in
theorem lines_Run.calls (k : Nat) (a0 : ByteArray) (a1 : Int) (r : Int) (w : World) (h : lines_Run.f k a0 a1 = some r) :
  Calls Tryd.prog 51 #[.string a0, .int .u8 a1] w fun e w' => e = .returned (.int .i64 r) ∧ Drawn0 w w' := by
 have H : (lines_Run.l0 k a0 a1 0) = some r := h
 clear h
 have H' := Aside0.mk H
 clear H
 go_enter Tryd.func51, Tryd.ntmps51
 go_wp2
 go_loopg [5] k (fun kq v5 w' => ∃ (x5_1 : Int), v5 = .int .i64 x5_1 ∧ Aside0 (lines_Run.l0 kq a0 a1 x5_1 = some r) ∧ Aside0 (kq ≤ k) ∧ Drawn0 w w')
 case atStart => exact ⟨(0), (by first | rfl | (simp; done) | (simp [*]; done) | (simp [bne, beq_nil_E]; done)), H', ⟨Nat.le_refl _⟩, by repeat (first | exact Drawn0.refl _ | apply Drawn0.step)⟩
 case round =>
  clear H'
  try clear p2
  obtain ⟨x5_1, rfl, HA, HK1, ⟨m1, rfl⟩⟩ := hrel
  cases gk with
  | zero => exact absurd HA.out (by simp [lines_Run.l0])
  | succ k1 =>
   have H := HA.out
   clear HA
   simp only [lines_Run.l0] at H
   by_cases c3 : x5_1 < (a0.size : Int)
   ·
    rw [if_pos c3] at H
    have c3b0 : decide (x5_1 < (a0.size : Int)) = true := decide_eq_true c3
    clear c3
    by_cases c4 : 0 ≤ x5_1
    ·
     rw [if_pos c4] at H
     have c4b0 : decide (0 ≤ x5_1) = true := decide_eq_true c4
     clear c4
     by_cases c6 : (bt a0 x5_1) = a1
     ·
      rw [if_pos c6] at H
      have c6b0 : ((bt a0 x5_1) == a1) = true := beq_iff_eq.mpr c6
      have c6b1 : ((bt a0 x5_1) != a1) = false := bne_eq_false_iff_eq.mpr c6
      clear c6
      have H' := Aside0.mk H
      clear H
      have p5 : 0 ≤ (x5_1 : Int) := of_decide_eq_true (by first | (with_reducible assumption) | assumption)
      have q5 : x5_1 < (a0.size : Int) := of_decide_eq_true (by first | (with_reducible assumption) | assumption)
      have hx5 := bt_at a0 x5_1
      replace p5 := eq_true p5
      replace q5 := eq_true q5
      go_wp2
      go_roundg k1
      case measure => have := HK1.out; omega
      case rel => exact ⟨(wrap64 (x5_1 + 1)), (by first | rfl | (simp; done) | (simp [*]; done) | (simp [bne, beq_nil_E]; done)), H', ⟨by have := HK1.out; omega⟩, by repeat (first | exact Drawn0.refl _ | apply Drawn0.step)⟩
     ·
      rw [if_neg c6] at H
      have c6b0 : ((bt a0 x5_1) == a1) = false := beq_eq_false_iff_ne.mpr c6
      have c6b1 : ((bt a0 x5_1) != a1) = true := bne_iff_ne.mpr c6
      obtain rfl := Option.some.inj H
      have p5 : 0 ≤ (x5_1 : Int) := of_decide_eq_true (by first | (with_reducible assumption) | assumption)
      have q5 : x5_1 < (a0.size : Int) := of_decide_eq_true (by first | (with_reducible assumption) | assumption)
      have hx5 := bt_at a0 x5_1
      replace p5 := eq_true p5
      replace q5 := eq_true q5
      go_wp2
      go_ret
      exact ⟨by first | rfl | (simp; done) | (simp [*]; done) | (simp [bne, beq_nil_E]; done), by repeat (first | exact Drawn0.refl _ | apply Drawn0.step)⟩
    ·
     rw [if_neg c4] at H
     exact absurd H (by simp)
   ·
    rw [if_neg c3] at H
    have c3b0 : decide (x5_1 < (a0.size : Int)) = false := decide_eq_false c3
    clear c3
    obtain rfl := Option.some.inj H
    go_wp2
    go_ret
    exact ⟨by first | rfl | (simp; done) | (simp [*]; done) | (simp [bne, beq_nil_E]; done), by repeat (first | exact Drawn0.refl _ | apply Drawn0.step)⟩

end Go.Proofs.YtmfffpfenhgjbaaDoor.X
