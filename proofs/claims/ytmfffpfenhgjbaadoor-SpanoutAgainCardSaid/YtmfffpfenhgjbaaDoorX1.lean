-- Written by a program of this session (wip/mkprint.py over the kit's print) out of the translation; Lean checks it.
import Derived.Test.YtmfffpfenhgjbaaDoorX0
import Derived.Test.YtmfffpfenhgjbaaDoorGivenStrs
import Derived.Test.YtmfffpfenhgjbaaDoorGivenTabs
import Derived.Test.YtmfffpfenhgjbaaDoorGivenUtf
namespace Go.Proofs.YtmfffpfenhgjbaaDoor.X
open Go.RowKit Go.Proofs.YtmfffpfenhgjbaaDoor.G Go.Proofs.YtmfffpfenhgjbaaDoorW.PrintWords Go.Proofs.YtmfffpfenhgjbaaDoorW.PrintLast Go.Proofs.YtmfffpfenhgjbaaDoorW.PrintMore
attribute [local go_sem] max2_int min2_int max_two min_two max_three min_three max_four min_four   -- for this text's walks alone
set_option linter.unusedVariables false
set_option linter.unusedSimpArgs false

-- GIVEN: function 71 (bytes_IndexByte)

-- GIVEN: function 72 (utf8_Valid)

/-! ### utf_Check: function 45 -/
def utf_Check.f (l0 : List Int) : Option (Int) := if (l0.length : Int) > 1048576 then (some 4) else ((bytes_IndexByte.f l0 0).bind fun t101 => (if t101 ≥ 0 then (some 3) else ((utf8_Valid.f l0).bind fun t102 => (if t102 = true then (some 0) else (some 2)))))
set_option maxHeartbeats 8000000 in
set_option maxRecDepth 100000 in
theorem utf_Check.calls (A0 : Option Addr) (c0 : Nat) (l0 : List Int) (r : Int) (w : World) (hT : Tabs w) (hr0 : Kd.C (Kd.int .u8) w A0 l0.length l0) (hc0 : l0.length ≤ c0) (h : utf_Check.f l0 = some r) :
  Calls Tryd.prog 45 #[.slice A0 l0.length c0] w fun e w' => e = .returned (.int .i64 r) ∧ Below w.heap.size w w' := by
 have HT := Aside0.mk hT
 clear hT
 have HR0 := Aside0.mk hr0
 have HC0 := Aside0.mk hc0
 clear hr0 hc0
 have HB := Aside0.mk (Below.refl w.heap.size w)
 have H : (if (l0.length : Int) > 1048576 then (some 4) else ((bytes_IndexByte.f l0 0).bind fun t101 => (if t101 ≥ 0 then (some 3) else ((utf8_Valid.f l0).bind fun t102 => (if t102 = true then (some 0) else (some 2)))))) = some r := h
 clear h
 by_cases c2 : (l0.length : Int) > 1048576
 ·
  rw [if_pos c2] at H
  have c2b0 : decide (1048576 < (l0.length : Int)) = true := decide_eq_true c2
  have c2b1 : decide (1048576 < l0.length) = true := decide_eq_true (by omega)
  clear c2
  obtain rfl := Option.some.inj H
  go_enter Tryd.func45, Tryd.ntmps45
  go_wp2
  go_ret
  exact ⟨by first | rfl | (simp [errW_none, errW_some] <;> rfl) | (simp [*, errW_none, errW_some] <;> rfl), by repeat (with_reducible first | exact HB.out | apply below_alloc | apply pw_below_drewN | apply below_drew1)⟩
 ·
  rw [if_neg c2] at H
  have c2b0 : decide (1048576 < (l0.length : Int)) = false := decide_eq_false c2
  have c2b1 : decide (1048576 < l0.length) = false := decide_eq_false (by omega)
  clear c2
  replace H := Option.bind_eq_some_iff.mp H
  obtain ⟨t101, A30, H⟩ := H
  replace H : (if t101 ≥ 0 then (some 3) else ((utf8_Valid.f l0).bind fun t102 => (if t102 = true then (some 0) else (some 2)))) = some r := H
  have A3 := Aside0.mk A30
  clear A30
  by_cases c4 : t101 ≥ 0
  ·
   rw [if_pos c4] at H
   have c4b0 : decide (0 ≤ t101) = true := decide_eq_true c4
   clear c4
   obtain rfl := Option.some.inj H
   go_enter Tryd.func45, Tryd.ntmps45
   go_wp2_with (first | ((with_reducible refine gate_callee (f := 71) rfl ?_); refine goesL_ (some 9) rfl rfl Tryd.func71 (by kernel_rfl) rfl #[.slice A0 l0.length c0, .int .u8 0] rfl (by (try simp only [List.map_toArray, List.map_cons, List.map_nil]); first | done | rfl | (simp only [List.length_drop, List.length_take]; rfl)) ?_; (with_reducible refine (bytes_IndexByte.calls _ _ l0 0 t101 _ ?side1 ?side2 A3.out).mono ?_); (case side1 => repeat (first | exact HR0.out | (with_reducible refine Kd.C_alloc ?_ _) | (with_reducible refine Kd.C_drewN ?_ _) | (with_reducible refine Kd.C_drew ?_))); (case side2 => exact HC0.out); rintro e w' ⟨rfl, ⟨nd, rfl⟩⟩; refine ⟨_, rfl, ?_⟩))
   go_ret
   exact ⟨by first | rfl | (simp [errW_none, errW_some] <;> rfl) | (simp [*, errW_none, errW_some] <;> rfl), by repeat (with_reducible first | exact HB.out | apply below_alloc | apply pw_below_drewN | apply below_drew1)⟩
  ·
   rw [if_neg c4] at H
   have c4b0 : decide (0 ≤ t101) = false := decide_eq_false c4
   clear c4
   replace H := Option.bind_eq_some_iff.mp H
   obtain ⟨t102, A50, H⟩ := H
   replace H : (if t102 = true then (some 0) else (some 2)) = some r := H
   have A5 := Aside0.mk A50
   clear A50
   by_cases c6 : t102 = true
   ·
    subst c6
    have H1 : (some 0) = some r := by rw [if_pos rfl] at H; exact H
    clear H
    have H := H1
    clear H1
    obtain rfl := Option.some.inj H
    go_enter Tryd.func45, Tryd.ntmps45
    go_wp2_with (first | ((with_reducible refine gate_callee (f := 71) rfl ?_); refine goesL_ (some 9) rfl rfl Tryd.func71 (by kernel_rfl) rfl #[.slice A0 l0.length c0, .int .u8 0] rfl (by (try simp only [List.map_toArray, List.map_cons, List.map_nil]); first | done | rfl | (simp only [List.length_drop, List.length_take]; rfl)) ?_; (with_reducible refine (bytes_IndexByte.calls _ _ l0 0 t101 _ ?side1 ?side2 A3.out).mono ?_); (case side1 => repeat (first | exact HR0.out | (with_reducible refine Kd.C_alloc ?_ _) | (with_reducible refine Kd.C_drewN ?_ _) | (with_reducible refine Kd.C_drew ?_))); (case side2 => exact HC0.out); rintro e w' ⟨rfl, ⟨nd, rfl⟩⟩; refine ⟨_, rfl, ?_⟩) | ((with_reducible refine gate_callee (f := 72) rfl ?_); refine goesL_ (some 13) rfl rfl Tryd.func72 (by kernel_rfl) rfl #[.slice A0 l0.length c0] rfl (by (try simp only [List.map_toArray, List.map_cons, List.map_nil]); first | done | rfl | (simp only [List.length_drop, List.length_take]; rfl)) ?_; (with_reducible refine (utf8_Valid.calls _ _ l0 true _ ?side3 ?side1 ?side2 A5.out).mono ?_); (case side1 => repeat (first | exact HR0.out | (with_reducible refine Kd.C_alloc ?_ _) | (with_reducible refine Kd.C_drewN ?_ _) | (with_reducible refine Kd.C_drew ?_))); (case side2 => exact HC0.out); (case side3 => first | exact HT.out | exact Tabs.at HT.out (by repeat (with_reducible first | exact HB.out | apply below_alloc | apply pw_below_drewN | apply below_drew1))); rintro e w7 ⟨rfl, hb⟩; refine ⟨_, rfl, ?_⟩; have n0_ := Aside0.mk (below_step (by repeat (with_reducible first | exact HB.out | apply below_alloc | apply pw_below_drewN | apply below_drew1)) hb); clear HB; have HB := n0_; clear n0_; (try clear hb); (try clear hb2); (try clear hk); (try clear hi)))
    go_ret
    exact ⟨by first | rfl | (simp [errW_none, errW_some] <;> rfl) | (simp [*, errW_none, errW_some] <;> rfl), by repeat (with_reducible first | exact HB.out | apply below_alloc | apply pw_below_drewN | apply below_drew1)⟩
   ·
    replace c6 := Bool.eq_false_iff.mpr c6
    subst c6
    have H1 : (some 2) = some r := by rw [if_neg (show ¬ (false = true) by decide)] at H; exact H
    clear H
    have H := H1
    clear H1
    obtain rfl := Option.some.inj H
    go_enter Tryd.func45, Tryd.ntmps45
    go_wp2_with (first | ((with_reducible refine gate_callee (f := 71) rfl ?_); refine goesL_ (some 9) rfl rfl Tryd.func71 (by kernel_rfl) rfl #[.slice A0 l0.length c0, .int .u8 0] rfl (by (try simp only [List.map_toArray, List.map_cons, List.map_nil]); first | done | rfl | (simp only [List.length_drop, List.length_take]; rfl)) ?_; (with_reducible refine (bytes_IndexByte.calls _ _ l0 0 t101 _ ?side1 ?side2 A3.out).mono ?_); (case side1 => repeat (first | exact HR0.out | (with_reducible refine Kd.C_alloc ?_ _) | (with_reducible refine Kd.C_drewN ?_ _) | (with_reducible refine Kd.C_drew ?_))); (case side2 => exact HC0.out); rintro e w' ⟨rfl, ⟨nd, rfl⟩⟩; refine ⟨_, rfl, ?_⟩) | ((with_reducible refine gate_callee (f := 72) rfl ?_); refine goesL_ (some 13) rfl rfl Tryd.func72 (by kernel_rfl) rfl #[.slice A0 l0.length c0] rfl (by (try simp only [List.map_toArray, List.map_cons, List.map_nil]); first | done | rfl | (simp only [List.length_drop, List.length_take]; rfl)) ?_; (with_reducible refine (utf8_Valid.calls _ _ l0 false _ ?side3 ?side1 ?side2 A5.out).mono ?_); (case side1 => repeat (first | exact HR0.out | (with_reducible refine Kd.C_alloc ?_ _) | (with_reducible refine Kd.C_drewN ?_ _) | (with_reducible refine Kd.C_drew ?_))); (case side2 => exact HC0.out); (case side3 => first | exact HT.out | exact Tabs.at HT.out (by repeat (with_reducible first | exact HB.out | apply below_alloc | apply pw_below_drewN | apply below_drew1))); rintro e w8 ⟨rfl, hb⟩; refine ⟨_, rfl, ?_⟩; have n0_ := Aside0.mk (below_step (by repeat (with_reducible first | exact HB.out | apply below_alloc | apply pw_below_drewN | apply below_drew1)) hb); clear HB; have HB := n0_; clear n0_; (try clear hb); (try clear hb2); (try clear hk); (try clear hi)))
    go_ret
    exact ⟨by first | rfl | (simp [errW_none, errW_some] <;> rfl) | (simp [*, errW_none, errW_some] <;> rfl), by repeat (with_reducible first | exact HB.out | apply below_alloc | apply pw_below_drewN | apply below_drew1)⟩

/-! ### utf_Class: function 90 -/
mutual
def utf_Class.j0 : Nat → Int → Bool → Option (Int)
 | 0, _, _ => none
 | k + 1, x0, x3 => if x3 = true then (some 3) else (if x0 = 9 then (utf_Class.j1 k x0 true) else (utf_Class.j1 k x0 (x0 == 32)))
def utf_Class.j1 : Nat → Int → Bool → Option (Int)
 | 0, _, _ => none
 | k + 1, x0, x10 => if x10 = true then (some 2) else (if x0 > 32 then (utf_Class.j2 k x0 (decide (x0 < 48))) else (utf_Class.j2 k x0 false))
def utf_Class.j2 : Nat → Int → Bool → Option (Int)
 | 0, _, _ => none
 | k + 1, x0, x17 => if x17 = true then (some 4) else (if x0 > 57 then (utf_Class.j3 k x0 (decide (x0 < 65))) else (utf_Class.j3 k x0 false))
def utf_Class.j3 : Nat → Int → Bool → Option (Int)
 | 0, _, _ => none
 | k + 1, x0, x17 => if x17 = true then (some 4) else (if x0 > 90 then (utf_Class.j4 k x0 (decide (x0 < 97))) else (utf_Class.j4 k x0 false))
def utf_Class.j4 : Nat → Int → Bool → Option (Int)
 | 0, _, _ => none
 | k + 1, x0, x17 => if x17 = true then (some 4) else (if x0 > 122 then (if x0 ≤ 126 then (some 4) else (some 1)) else (some 1))
end
def utf_Class.f (k : Nat) (a0 : Int) : Option (Int) := if a0 = 10 then (utf_Class.j0 k a0 true) else (utf_Class.j0 k a0 (a0 == 13))
set_option maxHeartbeats 8000000 in
set_option maxRecDepth 100000 in
theorem utf_Class.calls (k : Nat) (a0 : Int) (r : Int) (w : World) (h : utf_Class.f k a0 = some r) :
  Calls Tryd.prog 90 #[.int .i64 a0] w fun e w' => e = .returned (.int .i64 r) ∧ Drawn0 w w' := by
 have H : (if a0 = 10 then (utf_Class.j0 k a0 true) else (utf_Class.j0 k a0 (a0 == 13))) = some r := h
 clear h
 have HC2 := Aside0.mk H
 clear H
 go_enter Tryd.func90, Tryd.ntmps90
 go_upto_region 1 with (fail)
 go_cut [3] (fun v3 wc => ∃ (kq : Nat) (x3_1 : Bool), v3 = .bool x3_1 ∧ Aside0 (utf_Class.j0 kq a0 x3_1 = some r) ∧ Aside0 (kq ≤ k) ∧ Drawn0 w wc)
 case first =>
  have H := HC2.out
  clear HC2
  by_cases c3 : a0 = 10
  ·
   rw [if_pos c3] at H
   have c3b0 : (a0 == 10) = true := beq_iff_eq.mpr c3
   have c3b1 : (a0 != 10) = false := bne_eq_false_iff_eq.mpr c3
   clear c3
   (first | rw [c3b0] | (simp only [i64_w, i32_w]; rw [c3b0]) | skip)
   have H' := Aside0.mk H
   clear H
   go_wp2
   go_meet
   case rel => exact ⟨_, (true), (by first | rfl | (simp; done) | (simp [*]; done) | (simp [bne, beq_nil_E]; done)), H', ⟨by first | omega | exact Nat.le_refl _⟩, by repeat (first | exact Drawn0.refl _ | apply Drawn0.step)⟩
  ·
   rw [if_neg c3] at H
   have c3b0 : (a0 == 10) = false := beq_eq_false_iff_ne.mpr c3
   have c3b1 : (a0 != 10) = true := bne_iff_ne.mpr c3
   (first | rw [c3b0] | (simp only [i64_w, i32_w]; rw [c3b0]) | skip)
   have H' := Aside0.mk H
   clear H
   go_wp2
   go_meet
   case rel => exact ⟨_, ((a0 == 13)), (by first | rfl | (simp; done) | (simp [*]; done) | (simp [bne, beq_nil_E]; done)), H', ⟨by first | omega | exact Nat.le_refl _⟩, by repeat (first | exact Drawn0.refl _ | apply Drawn0.step)⟩
 case rest =>
  clear HC2
  try clear p2
  try clear c3
  try clear c3b0
  try clear c3b1
  obtain ⟨kq, x3_1, rfl, HA, HJ1, ⟨mc1, rfl⟩⟩ := hcut
  cases kq with
  | zero => exact absurd HA.out (by simp [utf_Class.j0])
  | succ kj1 =>
   have H := HA.out
   clear HA
   simp only [utf_Class.j0] at H
   by_cases c4 : x3_1 = true
   ·
    subst c4
    have H1 : (some 3) = some r := by rw [if_pos rfl] at H; exact H
    clear H
    have H := H1
    clear H1
    obtain rfl := Option.some.inj H
    go_wp2
    go_ret
    exact ⟨by first | rfl | (simp; done) | (simp [*]; done) | (simp [bne, beq_nil_E]; done), by repeat (first | exact Drawn0.refl _ | apply Drawn0.step)⟩
   ·
    replace c4 := Bool.eq_false_iff.mpr c4
    subst c4
    have H1 : (if a0 = 9 then (utf_Class.j1 kj1 a0 true) else (utf_Class.j1 kj1 a0 (a0 == 32))) = some r := by rw [if_neg (show ¬ (false = true) by decide)] at H; exact H
    clear H
    have H := H1
    clear H1
    have HC5 := Aside0.mk H
    clear H
    go_upto_region 3 with (fail)
    go_cut [10] (fun v10 wc => ∃ (kq : Nat) (x10_4 : Bool), v10 = .bool x10_4 ∧ Aside0 (utf_Class.j1 kq a0 x10_4 = some r) ∧ Aside0 (kq ≤ kj1) ∧ Drawn0 w wc)
    case first =>
     have H := HC5.out
     clear HC5
     by_cases c6 : a0 = 9
     ·
      rw [if_pos c6] at H
      have c6b0 : (a0 == 9) = true := beq_iff_eq.mpr c6
      have c6b1 : (a0 != 9) = false := bne_eq_false_iff_eq.mpr c6
      clear c6
      (first | rw [c6b0] | (simp only [i64_w, i32_w]; rw [c6b0]) | skip)
      have H' := Aside0.mk H
      clear H
      go_wp2
      go_meet
      case rel => exact ⟨_, (true), (by first | rfl | (simp; done) | (simp [*]; done) | (simp [bne, beq_nil_E]; done)), H', ⟨by have := HJ1.out; first | omega | exact Nat.le_refl _⟩, by repeat (first | exact Drawn0.refl _ | apply Drawn0.step)⟩
     ·
      rw [if_neg c6] at H
      have c6b0 : (a0 == 9) = false := beq_eq_false_iff_ne.mpr c6
      have c6b1 : (a0 != 9) = true := bne_iff_ne.mpr c6
      (first | rw [c6b0] | (simp only [i64_w, i32_w]; rw [c6b0]) | skip)
      have H' := Aside0.mk H
      clear H
      go_wp2
      go_meet
      case rel => exact ⟨_, ((a0 == 32)), (by first | rfl | (simp; done) | (simp [*]; done) | (simp [bne, beq_nil_E]; done)), H', ⟨by have := HJ1.out; first | omega | exact Nat.le_refl _⟩, by repeat (first | exact Drawn0.refl _ | apply Drawn0.step)⟩
    case rest =>
     clear HC5
     try clear c1
     try clear p2
     try clear c3
     try clear c3b0
     try clear c3b1
     try clear c4
     try clear c6
     try clear c6b0
     try clear c6b1
     try clear p2
     obtain ⟨kq, x10_4, rfl, HA, HJ4, ⟨mc4, rfl⟩⟩ := hcut
     cases kq with
     | zero => exact absurd HA.out (by simp [utf_Class.j1])
     | succ kj4 =>
      have H := HA.out
      clear HA
      simp only [utf_Class.j1] at H
      by_cases c7 : x10_4 = true
      ·
       subst c7
       have H1 : (some 2) = some r := by rw [if_pos rfl] at H; exact H
       clear H
       have H := H1
       clear H1
       obtain rfl := Option.some.inj H
       go_wp2
       go_ret
       exact ⟨by first | rfl | (simp; done) | (simp [*]; done) | (simp [bne, beq_nil_E]; done), by repeat (first | exact Drawn0.refl _ | apply Drawn0.step)⟩
      ·
       replace c7 := Bool.eq_false_iff.mpr c7
       subst c7
       have H1 : (if a0 > 32 then (utf_Class.j2 kj4 a0 (decide (a0 < 48))) else (utf_Class.j2 kj4 a0 false)) = some r := by rw [if_neg (show ¬ (false = true) by decide)] at H; exact H
       clear H
       have H := H1
       clear H1
       have HC8 := Aside0.mk H
       clear H
       go_upto_region 5 with (fail)
       go_cut [17] (fun v17 wc => ∃ (kq : Nat) (x17_7 : Bool), v17 = .bool x17_7 ∧ Aside0 (utf_Class.j2 kq a0 x17_7 = some r) ∧ Aside0 (kq ≤ kj4) ∧ Drawn0 w wc)
       case first =>
        have H := HC8.out
        clear HC8
        by_cases c9 : a0 > 32
        ·
         rw [if_pos c9] at H
         have c9b0 : decide (32 < a0) = true := decide_eq_true c9
         clear c9
         (first | rw [c9b0] | (simp only [i64_w, i32_w]; rw [c9b0]) | skip)
         have H' := Aside0.mk H
         clear H
         go_wp2
         go_meet
         case rel => exact ⟨_, (decide (a0 < 48)), (by first | rfl | (simp; done) | (simp [*]; done) | (simp [bne, beq_nil_E]; done)), H', ⟨by have := HJ1.out; have := HJ4.out; first | omega | exact Nat.le_refl _⟩, by repeat (first | exact Drawn0.refl _ | apply Drawn0.step)⟩
        ·
         rw [if_neg c9] at H
         have c9b0 : decide (32 < a0) = false := decide_eq_false c9
         clear c9
         (first | rw [c9b0] | (simp only [i64_w, i32_w]; rw [c9b0]) | skip)
         have H' := Aside0.mk H
         clear H
         go_wp2
         go_meet
         case rel => exact ⟨_, (false), (by first | rfl | (simp; done) | (simp [*]; done) | (simp [bne, beq_nil_E]; done)), H', ⟨by have := HJ1.out; have := HJ4.out; first | omega | exact Nat.le_refl _⟩, by repeat (first | exact Drawn0.refl _ | apply Drawn0.step)⟩
       case rest =>
        clear HC8
        try clear c1
        try clear p2
        try clear c3
        try clear c3b0
        try clear c3b1
        try clear c4
        try clear c6
        try clear c6b0
        try clear c6b1
        try clear c7
        try clear c9
        try clear c9b0
        try clear p2
        obtain ⟨kq, x17_7, rfl, HA, HJ7, ⟨mc7, rfl⟩⟩ := hcut
        cases kq with
        | zero => exact absurd HA.out (by simp [utf_Class.j2])
        | succ kj7 =>
         have H := HA.out
         clear HA
         simp only [utf_Class.j2] at H
         by_cases c10 : x17_7 = true
         ·
          subst c10
          have H1 : (some 4) = some r := by rw [if_pos rfl] at H; exact H
          clear H
          have H := H1
          clear H1
          obtain rfl := Option.some.inj H
          go_wp2
          go_ret
          exact ⟨by first | rfl | (simp; done) | (simp [*]; done) | (simp [bne, beq_nil_E]; done), by repeat (first | exact Drawn0.refl _ | apply Drawn0.step)⟩
         ·
          replace c10 := Bool.eq_false_iff.mpr c10
          subst c10
          have H1 : (if a0 > 57 then (utf_Class.j3 kj7 a0 (decide (a0 < 65))) else (utf_Class.j3 kj7 a0 false)) = some r := by rw [if_neg (show ¬ (false = true) by decide)] at H; exact H
          clear H
          have H := H1
          clear H1
          have HC11 := Aside0.mk H
          clear H
          go_upto_region 6 with (fail)
          go_cut [17] (fun v17 wc => ∃ (kq : Nat) (x17_10 : Bool), v17 = .bool x17_10 ∧ Aside0 (utf_Class.j3 kq a0 x17_10 = some r) ∧ Aside0 (kq ≤ kj7) ∧ Drawn0 w wc)
          case first =>
           have H := HC11.out
           clear HC11
           by_cases c12 : a0 > 57
           ·
            rw [if_pos c12] at H
            have c12b0 : decide (57 < a0) = true := decide_eq_true c12
            clear c12
            (first | rw [c12b0] | (simp only [i64_w, i32_w]; rw [c12b0]) | skip)
            have H' := Aside0.mk H
            clear H
            go_wp2
            go_meet
            case rel => exact ⟨_, (decide (a0 < 65)), (by first | rfl | (simp; done) | (simp [*]; done) | (simp [bne, beq_nil_E]; done)), H', ⟨by have := HJ1.out; have := HJ4.out; have := HJ7.out; first | omega | exact Nat.le_refl _⟩, by repeat (first | exact Drawn0.refl _ | apply Drawn0.step)⟩
           ·
            rw [if_neg c12] at H
            have c12b0 : decide (57 < a0) = false := decide_eq_false c12
            clear c12
            (first | rw [c12b0] | (simp only [i64_w, i32_w]; rw [c12b0]) | skip)
            have H' := Aside0.mk H
            clear H
            go_wp2
            go_meet
            case rel => exact ⟨_, (false), (by first | rfl | (simp; done) | (simp [*]; done) | (simp [bne, beq_nil_E]; done)), H', ⟨by have := HJ1.out; have := HJ4.out; have := HJ7.out; first | omega | exact Nat.le_refl _⟩, by repeat (first | exact Drawn0.refl _ | apply Drawn0.step)⟩
          case rest =>
           clear HC11
           try clear c1
           try clear p2
           try clear c3
           try clear c3b0
           try clear c3b1
           try clear c4
           try clear c6
           try clear c6b0
           try clear c6b1
           try clear c7
           try clear c9
           try clear c9b0
           try clear c10
           try clear c12
           try clear c12b0
           try clear p2
           obtain ⟨kq, x17_10, rfl, HA, HJ10, ⟨mc10, rfl⟩⟩ := hcut
           cases kq with
           | zero => exact absurd HA.out (by simp [utf_Class.j3])
           | succ kj10 =>
            have H := HA.out
            clear HA
            simp only [utf_Class.j3] at H
            by_cases c13 : x17_10 = true
            ·
             subst c13
             have H1 : (some 4) = some r := by rw [if_pos rfl] at H; exact H
             clear H
             have H := H1
             clear H1
             obtain rfl := Option.some.inj H
             go_wp2
             go_ret
             exact ⟨by first | rfl | (simp; done) | (simp [*]; done) | (simp [bne, beq_nil_E]; done), by repeat (first | exact Drawn0.refl _ | apply Drawn0.step)⟩
            ·
             replace c13 := Bool.eq_false_iff.mpr c13
             subst c13
             have H1 : (if a0 > 90 then (utf_Class.j4 kj10 a0 (decide (a0 < 97))) else (utf_Class.j4 kj10 a0 false)) = some r := by rw [if_neg (show ¬ (false = true) by decide)] at H; exact H
             clear H
             have H := H1
             clear H1
             have HC14 := Aside0.mk H
             clear H
             go_upto_region 7 with (fail)
             go_cut [17] (fun v17 wc => ∃ (kq : Nat) (x17_13 : Bool), v17 = .bool x17_13 ∧ Aside0 (utf_Class.j4 kq a0 x17_13 = some r) ∧ Aside0 (kq ≤ kj10) ∧ Drawn0 w wc)
             case first =>
              have H := HC14.out
              clear HC14
              by_cases c15 : a0 > 90
              ·
               rw [if_pos c15] at H
               have c15b0 : decide (90 < a0) = true := decide_eq_true c15
               clear c15
               (first | rw [c15b0] | (simp only [i64_w, i32_w]; rw [c15b0]) | skip)
               have H' := Aside0.mk H
               clear H
               go_wp2
               go_meet
               case rel => exact ⟨_, (decide (a0 < 97)), (by first | rfl | (simp; done) | (simp [*]; done) | (simp [bne, beq_nil_E]; done)), H', ⟨by have := HJ1.out; have := HJ4.out; have := HJ7.out; have := HJ10.out; first | omega | exact Nat.le_refl _⟩, by repeat (first | exact Drawn0.refl _ | apply Drawn0.step)⟩
              ·
               rw [if_neg c15] at H
               have c15b0 : decide (90 < a0) = false := decide_eq_false c15
               clear c15
               (first | rw [c15b0] | (simp only [i64_w, i32_w]; rw [c15b0]) | skip)
               have H' := Aside0.mk H
               clear H
               go_wp2
               go_meet
               case rel => exact ⟨_, (false), (by first | rfl | (simp; done) | (simp [*]; done) | (simp [bne, beq_nil_E]; done)), H', ⟨by have := HJ1.out; have := HJ4.out; have := HJ7.out; have := HJ10.out; first | omega | exact Nat.le_refl _⟩, by repeat (first | exact Drawn0.refl _ | apply Drawn0.step)⟩
             case rest =>
              clear HC14
              try clear c1
              try clear p2
              try clear c3
              try clear c3b0
              try clear c3b1
              try clear c4
              try clear c6
              try clear c6b0
              try clear c6b1
              try clear c7
              try clear c9
              try clear c9b0
              try clear c10
              try clear c12
              try clear c12b0
              try clear c13
              try clear c15
              try clear c15b0
              try clear p2
              obtain ⟨kq, x17_13, rfl, HA, HJ13, ⟨mc13, rfl⟩⟩ := hcut
              cases kq with
              | zero => exact absurd HA.out (by simp [utf_Class.j4])
              | succ kj13 =>
               have H := HA.out
               clear HA
               simp only [utf_Class.j4] at H
               by_cases c16 : x17_13 = true
               ·
                subst c16
                have H1 : (some 4) = some r := by rw [if_pos rfl] at H; exact H
                clear H
                have H := H1
                clear H1
                obtain rfl := Option.some.inj H
                go_wp2
                go_ret
                exact ⟨by first | rfl | (simp; done) | (simp [*]; done) | (simp [bne, beq_nil_E]; done), by repeat (first | exact Drawn0.refl _ | apply Drawn0.step)⟩
               ·
                replace c16 := Bool.eq_false_iff.mpr c16
                subst c16
                have H1 : (if a0 > 122 then (if a0 ≤ 126 then (some 4) else (some 1)) else (some 1)) = some r := by rw [if_neg (show ¬ (false = true) by decide)] at H; exact H
                clear H
                have H := H1
                clear H1
                by_cases c17 : a0 > 122
                ·
                 rw [if_pos c17] at H
                 have c17b0 : decide (122 < a0) = true := decide_eq_true c17
                 clear c17
                 by_cases c18 : a0 ≤ 126
                 ·
                  rw [if_pos c18] at H
                  have c18b0 : decide (a0 ≤ 126) = true := decide_eq_true c18
                  clear c18
                  obtain rfl := Option.some.inj H
                  go_wp2
                  go_ret
                  exact ⟨by first | rfl | (simp; done) | (simp [*]; done) | (simp [bne, beq_nil_E]; done), by repeat (first | exact Drawn0.refl _ | apply Drawn0.step)⟩
                 ·
                  rw [if_neg c18] at H
                  have c18b0 : decide (a0 ≤ 126) = false := decide_eq_false c18
                  clear c18
                  obtain rfl := Option.some.inj H
                  go_wp2
                  go_ret
                  exact ⟨by first | rfl | (simp; done) | (simp [*]; done) | (simp [bne, beq_nil_E]; done), by repeat (first | exact Drawn0.refl _ | apply Drawn0.step)⟩
                ·
                 rw [if_neg c17] at H
                 have c17b0 : decide (122 < a0) = false := decide_eq_false c17
                 clear c17
                 obtain rfl := Option.some.inj H
                 go_wp2
                 go_ret
                 exact ⟨by first | rfl | (simp; done) | (simp [*]; done) | (simp [bne, beq_nil_E]; done), by repeat (first | exact Drawn0.refl _ | apply Drawn0.step)⟩

/-! ### utf_Escapes: function 63 -/
def utf_Escapes.f (k : Nat) (a0 : Int) : Option (Bool) := (utf_Class.f k (wrap64 (a0))).bind fun t103 => (some (t103 == 4))
set_option maxHeartbeats 8000000 in
set_option maxRecDepth 100000 in
theorem utf_Escapes.calls (k : Nat) (a0 : Int) (r : Bool) (w : World) (h : utf_Escapes.f k a0 = some r) :
  Calls Tryd.prog 63 #[.int .u8 a0] w fun e w' => e = .returned (.bool r) ∧ Drawn0 w w' := by
 have H : ((utf_Class.f k (wrap64 (a0))).bind fun t103 => (some (t103 == 4))) = some r := h
 clear h
 replace H := Option.bind_eq_some_iff.mp H
 obtain ⟨t103, A20, H⟩ := H
 replace H : (some (t103 == 4)) = some r := H
 have A2 := Aside0.mk A20
 clear A20
 obtain rfl := Option.some.inj H
 go_enter Tryd.func63, Tryd.ntmps63
 go_wp2_with (first | ((with_reducible refine gate_callee (f := 90) rfl ?_); refine goesL_ (some 5) rfl rfl Tryd.func90 (by kernel_rfl) rfl #[.int .i64 (wrap64 (a0))] rfl (by (try simp only [List.map_toArray, List.map_cons, List.map_nil]); first | done | rfl | (simp only [List.length_drop, List.length_take]; rfl)) ?_; (with_reducible refine (utf_Class.calls k (wrap64 (a0)) t103 _ A2.out).mono ?_); rintro e w' ⟨rfl, ⟨nd, rfl⟩⟩; refine ⟨_, rfl, ?_⟩))
 go_ret
 exact ⟨by first | rfl | (simp; done) | (simp [*]; done) | (simp [bne, beq_nil_E]; done), by repeat (first | exact Drawn0.refl _ | apply Drawn0.step)⟩

-- GIVEN: function 46 (strings_ContainsRune)

/-! ### span_text: function 87 -/
mutual
def span_text.j0 : Nat → ByteArray → Bool → Option (Bool)
 | 0, _, _ => none
 | k + 1, x0, x11 => if x11 = true then (some false) else (if 0 ≤ (wrap64 ((x0.size : Int) - 1)) then (if (wrap64 ((x0.size : Int) - 1)) ≤ (x0.size : Int) then (if (x0.extract 0 ((wrap64 ((x0.size : Int) - 1)) : Int).toNat).size ≤ 9223372036854775807 then ((some (bytesOf (x0.extract 0 ((wrap64 ((x0.size : Int) - 1)) : Int).toNat) : List Int)).bind fun y105 => (span_text.l0 k x0 y105 (y105.length : Int) 0)) else (none)) else (none)) else (none))
def span_text.l0 : Nat → ByteArray → List Int → Int → Int → Option (Bool)
 | 0, _, _, _, _ => none
 | k + 1, x0, x17, x18, x19 => if x19 < x18 then (if 0 ≤ x19 then (if x19 < (x17.length : Int) then (if 0 ≤ (wrap64 (x19 + 1)) then (if (wrap64 (x19 + 1)) < (x0.size : Int) then (if (rd x17 x19) = 10 then ((utf_Class.f k (wrap64 (bt x0 (wrap64 (x19 + 1))))).bind fun t109 => (if t109 = 1 then (span_text.j2 k x0 (rd x17 x19) (bt x0 (wrap64 (x19 + 1))) x17 x18 x19 false) else ((utf_Class.f k (wrap64 (bt x0 (wrap64 (x19 + 1))))).bind fun t110 => (span_text.j2 k x0 (rd x17 x19) (bt x0 (wrap64 (x19 + 1))) x17 x18 x19 (t110 != 4))))) else (span_text.j2 k x0 (rd x17 x19) (bt x0 (wrap64 (x19 + 1))) x17 x18 x19 false)) else (none)) else (none)) else (none)) else (none)) else (some true)
def span_text.j2 : Nat → ByteArray → Int → Int → List Int → Int → Int → Bool → Option (Bool)
 | 0, _, _, _, _, _, _, _ => none
 | k + 1, x0, x4, x5, x17, x18, x19, x41 => if x41 = true then (some false) else (if x5 = 10 then ((utf_Class.f k (wrap64 (x4))).bind fun t111 => (if t111 = 2 then (some false) else (span_text.l0 k x0 x17 x18 (wrap64 (x19 + 1))))) else (span_text.l0 k x0 x17 x18 (wrap64 (x19 + 1))))
end
def span_text.f (k : Nat) (a0 : ByteArray) : Option (Bool) := if a0.toList = ([] : List UInt8) then (span_text.j0 k a0 true) else ((strings_ContainsRune.f a0 13).bind fun t104 => (span_text.j0 k a0 t104))
set_option maxHeartbeats 8000000 in
set_option maxRecDepth 100000 in
theorem span_text.calls (k : Nat) (a0 : ByteArray) (r : Bool) (w : World) (h : span_text.f k a0 = some r) :
  Calls Tryd.prog 87 #[.string a0] w fun e w' => e = .returned (.bool r) ∧ Below w.heap.size w w' := by
 have HB := Aside0.mk (Below.refl w.heap.size w)
 have H : (if a0.toList = ([] : List UInt8) then (span_text.j0 k a0 true) else ((strings_ContainsRune.f a0 13).bind fun t104 => (span_text.j0 k a0 t104))) = some r := h
 clear h
 have HC2 := Aside0.mk H
 clear H
 go_enter Tryd.func87, Tryd.ntmps87
 go_upto_region 1 with (fail)
 go_cut [11] (fun v11 wc => ∃ (kq : Nat) (x11_1 : Bool), v11 = .bool x11_1 ∧ Aside0 (span_text.j0 kq a0 x11_1 = some r) ∧ Aside0 (kq ≤ k) ∧ Aside0 (Below w.heap.size w wc))
 case first =>
  have H := HC2.out
  clear HC2
  by_cases c3 : a0.toList = ([] : List UInt8)
  ·
   rw [if_pos c3] at H
   have c3b0 : (a0.toList == ([] : List UInt8)) = true := beq_iff_eq.mpr c3
   have c3b1 : (a0.toList != ([] : List UInt8)) = false := bne_eq_false_iff_eq.mpr c3
   (try (have c3b0e := c3b0; simp only [beq_nil_E] at c3b0e))
   clear c3
   (first | rw [c3b0] | (simp only [i64_w, i32_w]; rw [c3b0]) | skip)
   have H' := Aside0.mk H
   clear H
   go_wp2
   go_meet
   case rel => exact ⟨_, (true), (by first | rfl | (simp; done) | (simp [*]; done) | (simp [bne, beq_nil_E]; done)), H', ⟨by first | omega | exact Nat.le_refl _⟩, ⟨by repeat (with_reducible first | exact HB.out | apply below_alloc | apply pw_below_drewN | apply below_drew1)⟩⟩
  ·
   rw [if_neg c3] at H
   have c3b0 : (a0.toList == ([] : List UInt8)) = false := beq_eq_false_iff_ne.mpr c3
   have c3b1 : (a0.toList != ([] : List UInt8)) = true := bne_iff_ne.mpr c3
   (try (have c3b0e := c3b0; simp only [beq_nil_E] at c3b0e))
   (first | rw [c3b0] | (simp only [i64_w, i32_w]; rw [c3b0]) | skip)
   replace H := Option.bind_eq_some_iff.mp H
   obtain ⟨t104, A40, H⟩ := H
   replace H : (span_text.j0 k a0 t104) = some r := H
   have A4 := Aside0.mk A40
   clear A40
   have H' := Aside0.mk H
   clear H
   have tkA4 : True := trivial
   go_wp2_with (first | (go_at_call 46; clear tkA4; (with_reducible refine (strings_ContainsRune.calls a0 13 t104 _ A4.out).mono ?_); rintro e w5 ⟨rfl, hb⟩; have n0_ := Aside0.mk (below_step (by repeat (with_reducible first | exact HB.out | apply below_alloc | apply pw_below_drewN | apply below_drew1)) hb); clear HB; have HB := n0_; clear n0_; (try clear hb); (try clear hb2); (try clear hk); (try clear hi)))
   go_meet
   case rel => exact ⟨_, (t104), (by first | rfl | (simp; done) | (simp [*]; done) | (simp [bne, beq_nil_E]; done)), H', ⟨by first | omega | exact Nat.le_refl _⟩, ⟨by repeat (with_reducible first | exact HB.out | apply below_alloc | apply pw_below_drewN | apply below_drew1)⟩⟩
 case rest =>
  clear HC2
  try clear p2
  try clear c3
  try clear c3b0
  try clear c3b1
  obtain ⟨kq, x11_1, rfl, HA, HJ1, HB⟩ := hcut
  cases kq with
  | zero => exact absurd HA.out (by simp [span_text.j0])
  | succ kj1 =>
   have H := HA.out
   clear HA
   simp only [span_text.j0] at H
   by_cases c6 : x11_1 = true
   ·
    subst c6
    have H1 : (some false) = some r := by rw [if_pos rfl] at H; exact H
    clear H
    have H := H1
    clear H1
    obtain rfl := Option.some.inj H
    go_wp2
    go_ret
    exact ⟨by first | rfl | (simp [errW_none, errW_some] <;> rfl) | (simp [*, errW_none, errW_some] <;> rfl), by repeat (with_reducible first | exact HB.out | apply below_alloc | apply pw_below_drewN | apply below_drew1)⟩
   ·
    replace c6 := Bool.eq_false_iff.mpr c6
    subst c6
    have H1 : (if 0 ≤ (wrap64 ((a0.size : Int) - 1)) then (if (wrap64 ((a0.size : Int) - 1)) ≤ (a0.size : Int) then (if (a0.extract 0 ((wrap64 ((a0.size : Int) - 1)) : Int).toNat).size ≤ 9223372036854775807 then ((some (bytesOf (a0.extract 0 ((wrap64 ((a0.size : Int) - 1)) : Int).toNat) : List Int)).bind fun y105 => (span_text.l0 kj1 a0 y105 (y105.length : Int) 0)) else (none)) else (none)) else (none)) = some r := by rw [if_neg (show ¬ (false = true) by decide)] at H; exact H
    clear H
    have H := H1
    clear H1
    obtain ⟨ji7, hji7⟩ : ∃ j_ : Int, (wrap64 ((a0.size : Int) - 1)) = j_ := ⟨_, rfl⟩
    replace H : (if 0 ≤ (ji7) then (if (ji7) ≤ (a0.size : Int) then (if (a0.extract 0 ((ji7) : Int).toNat).size ≤ 9223372036854775807 then ((some (bytesOf (a0.extract 0 ((ji7) : Int).toNat) : List Int)).bind fun y105 => (span_text.l0 kj1 a0 y105 (y105.length : Int) 0)) else (none)) else (none)) else (none)) = some r := by first | (rw [hji7] at H; exact H) | (simp only [hji7] at H ⊢; exact H)
    have hji7w : (IntKind.i64.wrap ((a0.size : Int) - 1)) = ji7 := (i64_w _).trans hji7
    by_cases c8 : 0 ≤ (ji7)
    ·
     rw [if_pos c8] at H
     have c8b0 := eq_true c8
     have c8b1 : decide (0 ≤ (ji7)) = true := decide_eq_true c8
     clear c8
     by_cases c9 : (ji7) ≤ (a0.size : Int)
     ·
      rw [if_pos c9] at H
      have c9b0 := eq_true c9
      have c9b1 : decide ((ji7) ≤ (a0.size : Int)) = true := decide_eq_true c9
      clear c9
      by_cases c10 : (a0.extract 0 ((ji7) : Int).toNat).size ≤ 9223372036854775807
      ·
       rw [if_pos c10] at H
       have c10b0 := eq_true c10
       have c10b1 : decide ((a0.extract 0 ((ji7) : Int).toNat).size ≤ 9223372036854775807) = true := decide_eq_true c10
       try have c10b2 : (9223372036854775807 < (a0.extract 0 ((ji7) : Int).toNat).size) = False := eq_false (Nat.not_lt.2 c10)
       clear c10
       obtain ⟨y105, hy105⟩ : ∃ y_ : List Int, y_ = (bytesOf (a0.extract 0 ((ji7) : Int).toNat)) := ⟨_, rfl⟩
       replace H : (span_text.l0 kj1 a0 y105 (y105.length : Int) 0) = some r := by first | (rw [hy105]; with_reducible exact H) | (have H2_ := (Option.bind_some _ _).symm.trans H; rw [hy105]; with_reducible exact H2_) | (have H2_ := (Option.bind_some _ _).symm.trans H; with_reducible exact H2_) | with_reducible exact H | (rw [hy105]; exact H) | exact H
       have Ny105 := Aside0.mk hy105
       clear hy105
       have H' := Aside0.mk H
       clear H
       go_wp2_with (first | ((with_reducible refine gate_dst (N := 17) rfl ?_); refine Kd.V_conv _ 5 rfl (N := 17) rfl 9 54 _ rfl (a0.extract 0 ((ji7) : Int).toNat) rfl Tryd.underlying9 Tryd.underlying54 Tryd.underlying5 (of_decide_eq_true (by first | (with_reducible assumption) | assumption | rfl)) (Below.refl _ _) (Nat.le_refl _) ?_; intro v106 w11 ho12 hb hg_ hnew_; clear hg_ hnew_; (first | rw [← Ny105.out] at ho12 | (simp only [Int.reduceToNat] at ho12; rw [← Ny105.out] at ho12)); have n0_ := Aside0.mk (Kd.V_lower (Kd.V_mono (ok' := fun k_ => True) ho12 (fun k_ hk_ => trivial)) (below_size (by repeat (with_reducible first | exact HB.out | apply below_alloc | apply pw_below_drewN | apply below_drew1)))); have n1_ := Aside0.mk (below_step (by repeat (with_reducible first | exact HB.out | apply below_alloc | apply pw_below_drewN | apply below_drew1)) hb); clear HB; have HO107 := n0_; have HB := n1_; clear n0_ n1_; clear hb ho12; obtain ⟨Ao13, co13, eo13⟩ := Kd.V_slice HO107.out; subst eo13))
       go_loopg [19] kj1 (fun kq v19 w' => ∃ (x19_2 : Int), v19 = .int .i64 x19_2 ∧ Aside0 (span_text.l0 kq a0 y105 (y105.length : Int) x19_2 = some r) ∧ Aside0 (kq ≤ kj1) ∧ Aside0 (Kd.V (Kd.int .u8) 5 w' w.heap.size (fun _ => True) (.slice Ao13 y105.length co13) y105) ∧ Aside0 (Below w.heap.size w w'))
       case atStart => exact ⟨(0), (by first | rfl | (simp; done) | (simp [*]; done) | (simp [bne, beq_nil_E]; done)), H', ⟨Nat.le_refl _⟩, ⟨by (with_reducible repeat (first | apply Kd.V_alloc | apply Kd.V_drewN | apply Kd.V_drew)); exact HO107.out⟩, ⟨by repeat (with_reducible first | exact HB.out | apply below_alloc | apply pw_below_drewN | apply below_drew1)⟩⟩
       case round =>
        clear H'
        try clear c1
        try clear p2
        try clear c3
        try clear c3b0
        try clear c3b1
        try clear c6
        try clear p6
        try clear c8
        try clear c8b0
        try clear c8b1
        try clear c9
        try clear c9b0
        try clear c9b1
        try clear c10
        try clear c10b0
        try clear c10b1
        try clear c10b2
        try clear p2
        obtain ⟨x19_2, rfl, HA, HK2, HO_17, HB⟩ := hrel
        cases gk with
        | zero => exact absurd HA.out (by simp [span_text.l0])
        | succ k2 =>
         have H := HA.out
         clear HA
         simp only [span_text.l0] at H
         by_cases c14 : x19_2 < (y105.length : Int)
         ·
          rw [if_pos c14] at H
          have c14b0 : decide (x19_2 < (y105.length : Int)) = true := decide_eq_true c14
          clear c14
          by_cases c15 : 0 ≤ x19_2
          ·
           rw [if_pos c15] at H
           have c15b0 : decide (0 ≤ x19_2) = true := decide_eq_true c15
           clear c15
           by_cases c16 : x19_2 < (y105.length : Int)
           ·
            rw [if_pos c16] at H
            have c16b0 : decide (x19_2 < (y105.length : Int)) = true := decide_eq_true c16
            clear c16
            obtain ⟨ji17, hji17⟩ : ∃ j_ : Int, (wrap64 (x19_2 + 1)) = j_ := ⟨_, rfl⟩
            replace H : (if 0 ≤ (ji17) then (if (ji17) < (a0.size : Int) then (if (rd y105 x19_2) = 10 then ((utf_Class.f k2 (wrap64 (bt a0 (ji17)))).bind fun t109 => (if t109 = 1 then (span_text.j2 k2 a0 (rd y105 x19_2) (bt a0 (ji17)) y105 (y105.length : Int) x19_2 false) else ((utf_Class.f k2 (wrap64 (bt a0 (ji17)))).bind fun t110 => (span_text.j2 k2 a0 (rd y105 x19_2) (bt a0 (ji17)) y105 (y105.length : Int) x19_2 (t110 != 4))))) else (span_text.j2 k2 a0 (rd y105 x19_2) (bt a0 (ji17)) y105 (y105.length : Int) x19_2 false)) else (none)) else (none)) = some r := by first | (rw [hji17] at H; exact H) | (simp only [hji17] at H ⊢; exact H)
            have hji17w : (IntKind.i64.wrap (x19_2 + 1)) = ji17 := (i64_w _).trans hji17
            by_cases c18 : 0 ≤ (ji17)
            ·
             rw [if_pos c18] at H
             have c18b0 : decide (0 ≤ (ji17)) = true := decide_eq_true c18
             clear c18
             by_cases c19 : (ji17) < (a0.size : Int)
             ·
              rw [if_pos c19] at H
              have c19b0 : decide ((ji17) < (a0.size : Int)) = true := decide_eq_true c19
              clear c19
              have HC21 := Aside0.mk H
              clear H
              have p108 : 0 ≤ (x19_2 : Int) := of_decide_eq_true (by first | (with_reducible assumption) | assumption)
              have q108 : x19_2 < (y105.length : Int) := of_decide_eq_true (by first | (with_reducible assumption) | assumption)
              obtain ⟨ad108, e108, hx108_0⟩ := Kd.at_int (Kd.V_reads' HO_17.out).2.2 x19_2 p108 q108
              cases e108
              replace p108 := eq_true p108
              replace q108 := eq_true q108
              have p20 : 0 ≤ ((ji17) : Int) := of_decide_eq_true (by first | (with_reducible assumption) | assumption)
              have q20 : (ji17) < (a0.size : Int) := of_decide_eq_true (by first | (with_reducible assumption) | assumption)
              have hx20 := bt_at a0 (ji17)
              replace p20 := eq_true p20
              replace q20 := eq_true q20
              go_upto_region 7 with (fail)
              go_cut [41] (fun v41 wc => ∃ (kq : Nat) (x41_20 : Bool), v41 = .bool x41_20 ∧ Aside0 (span_text.j2 kq a0 (rd y105 x19_2) (bt a0 (ji17)) y105 (y105.length : Int) x19_2 x41_20 = some r) ∧ Aside0 (kq ≤ k2) ∧ Aside0 (Kd.V (Kd.int .u8) 5 wc w.heap.size (fun _ => True) (.slice (some ad108) y105.length co13) y105) ∧ Aside0 (Below w.heap.size w wc))
              case first =>
               have H := HC21.out
               clear HC21
               by_cases c22 : (rd y105 x19_2) = 10
               ·
                rw [if_pos c22] at H
                have c22b0 : ((rd y105 x19_2) == 10) = true := beq_iff_eq.mpr c22
                have c22b1 : ((rd y105 x19_2) != 10) = false := bne_eq_false_iff_eq.mpr c22
                clear c22
                (first | rw [c22b0] | (simp only [i64_w, i32_w]; rw [c22b0]) | skip)
                replace H := Option.bind_eq_some_iff.mp H
                obtain ⟨t109, A230, H⟩ := H
                replace H : (if t109 = 1 then (span_text.j2 k2 a0 (rd y105 x19_2) (bt a0 (ji17)) y105 (y105.length : Int) x19_2 false) else ((utf_Class.f k2 (wrap64 (bt a0 (ji17)))).bind fun t110 => (span_text.j2 k2 a0 (rd y105 x19_2) (bt a0 (ji17)) y105 (y105.length : Int) x19_2 (t110 != 4)))) = some r := H
                have A23 := Aside0.mk A230
                clear A230
                by_cases c24 : t109 = 1
                ·
                 rw [if_pos c24] at H
                 have c24b0 : (t109 == 1) = true := beq_iff_eq.mpr c24
                 have c24b1 : (t109 != 1) = false := bne_eq_false_iff_eq.mpr c24
                 clear c24
                 have H' := Aside0.mk H
                 clear H
                 have tkA23 : True := trivial
                 go_wp2_with (first | (go_at_call 90; clear tkA23; (with_reducible refine (utf_Class.calls k2 (wrap64 (bt a0 (ji17))) t109 _ A23.out).mono ?_); rintro e w' ⟨rfl, ⟨nd, rfl⟩⟩))
                 go_meet
                 case rel => exact ⟨_, (false), (by first | rfl | (simp; done) | (simp [*]; done) | (simp [bne, beq_nil_E]; done)), H', ⟨by have := HJ1.out; have := HK2.out; first | omega | exact Nat.le_refl _⟩, ⟨by (with_reducible repeat (first | apply Kd.V_alloc | apply Kd.V_drewN | apply Kd.V_drew)); exact HO_17.out⟩, ⟨by repeat (with_reducible first | exact HB.out | apply below_alloc | apply pw_below_drewN | apply below_drew1)⟩⟩
                ·
                 rw [if_neg c24] at H
                 have c24b0 : (t109 == 1) = false := beq_eq_false_iff_ne.mpr c24
                 have c24b1 : (t109 != 1) = true := bne_iff_ne.mpr c24
                 replace H := Option.bind_eq_some_iff.mp H
                 obtain ⟨t110, A250, H⟩ := H
                 replace H : (span_text.j2 k2 a0 (rd y105 x19_2) (bt a0 (ji17)) y105 (y105.length : Int) x19_2 (t110 != 4)) = some r := H
                 have A25 := Aside0.mk A250
                 clear A250
                 have H' := Aside0.mk H
                 clear H
                 have tkA23 : True := trivial
                 go_wp2_with (first | (go_at_call 90; clear tkA23; (with_reducible refine (utf_Class.calls k2 (wrap64 (bt a0 (ji17))) t109 _ A23.out).mono ?_); rintro e w' ⟨rfl, ⟨nd, rfl⟩⟩; have tkA25 : True := trivial) | (go_at_call 90; clear tkA25; (with_reducible refine (utf_Class.calls k2 (wrap64 (bt a0 (ji17))) t110 _ A25.out).mono ?_); rintro e w' ⟨rfl, ⟨nd, rfl⟩⟩))
                 go_meet
                 case rel => exact ⟨_, ((t110 != 4)), (by first | rfl | (simp; done) | (simp [*]; done) | (simp [bne, beq_nil_E]; done)), H', ⟨by have := HJ1.out; have := HK2.out; first | omega | exact Nat.le_refl _⟩, ⟨by (with_reducible repeat (first | apply Kd.V_alloc | apply Kd.V_drewN | apply Kd.V_drew)); exact HO_17.out⟩, ⟨by repeat (with_reducible first | exact HB.out | apply below_alloc | apply pw_below_drewN | apply below_drew1)⟩⟩
               ·
                rw [if_neg c22] at H
                have c22b0 : ((rd y105 x19_2) == 10) = false := beq_eq_false_iff_ne.mpr c22
                have c22b1 : ((rd y105 x19_2) != 10) = true := bne_iff_ne.mpr c22
                (first | rw [c22b0] | (simp only [i64_w, i32_w]; rw [c22b0]) | skip)
                have H' := Aside0.mk H
                clear H
                go_wp2
                go_meet
                case rel => exact ⟨_, (false), (by first | rfl | (simp; done) | (simp [*]; done) | (simp [bne, beq_nil_E]; done)), H', ⟨by have := HJ1.out; have := HK2.out; first | omega | exact Nat.le_refl _⟩, ⟨by (with_reducible repeat (first | apply Kd.V_alloc | apply Kd.V_drewN | apply Kd.V_drew)); exact HO_17.out⟩, ⟨by repeat (with_reducible first | exact HB.out | apply below_alloc | apply pw_below_drewN | apply below_drew1)⟩⟩
              case rest =>
               clear HC21
               try clear c1
               try clear p1
               try clear q1
               try clear hx1
               try clear c2
               try clear p2
               try clear q2
               try clear hx2
               try clear c3
               try clear c3b0
               try clear c3b1
               try clear c6
               try clear p6
               try clear c8
               try clear c8b0
               try clear c8b1
               try clear c9
               try clear c9b0
               try clear c9b1
               try clear c10
               try clear c10b0
               try clear c10b1
               try clear c10b2
               try clear p10
               try clear q10
               try clear hx10
               try clear c14
               try clear c14b0
               try clear c15
               try clear c15b0
               try clear c16
               try clear c16b0
               try clear c18
               try clear c18b0
               try clear c19
               try clear c19b0
               try clear p20
               try clear q20
               try clear hx20
               try clear c22
               try clear c22b0
               try clear c22b1
               try clear c24
               try clear c24b0
               try clear c24b1
               try clear hx108_0
               try clear p108
               try clear p2
               try clear p20
               try clear p6
               try clear q108
               try clear q20
               obtain ⟨kq, x41_20, rfl, HA, HJ20, HO_17, HB⟩ := hcut
               cases kq with
               | zero => exact absurd HA.out (by simp [span_text.j2])
               | succ kj20 =>
                have H := HA.out
                clear HA
                simp only [span_text.j2] at H
                by_cases c26 : x41_20 = true
                ·
                 subst c26
                 have H1 : (some false) = some r := by rw [if_pos rfl] at H; exact H
                 clear H
                 have H := H1
                 clear H1
                 obtain rfl := Option.some.inj H
                 go_wp2
                 go_ret
                 exact ⟨by first | rfl | (simp [errW_none, errW_some] <;> rfl) | (simp only [← hji7, ← hji17]; first | rfl | (simp [errW_none, errW_some] <;> rfl)) | (simp [*, errW_none, errW_some] <;> rfl), by repeat (with_reducible first | exact HB.out | apply below_alloc | apply pw_below_drewN | apply below_drew1)⟩
                ·
                 replace c26 := Bool.eq_false_iff.mpr c26
                 subst c26
                 have H1 : (if (bt a0 (ji17)) = 10 then ((utf_Class.f kj20 (wrap64 ((rd y105 x19_2)))).bind fun t111 => (if t111 = 2 then (some false) else (span_text.l0 kj20 a0 y105 (y105.length : Int) (wrap64 (x19_2 + 1))))) else (span_text.l0 kj20 a0 y105 (y105.length : Int) (wrap64 (x19_2 + 1)))) = some r := by rw [if_neg (show ¬ (false = true) by decide)] at H; exact H
                 clear H
                 have H := H1
                 clear H1
                 by_cases c27 : (bt a0 (ji17)) = 10
                 ·
                  rw [if_pos c27] at H
                  have c27b0 : ((bt a0 (ji17)) == 10) = true := beq_iff_eq.mpr c27
                  have c27b1 : ((bt a0 (ji17)) != 10) = false := bne_eq_false_iff_eq.mpr c27
                  clear c27
                  replace H := Option.bind_eq_some_iff.mp H
                  obtain ⟨t111, A280, H⟩ := H
                  replace H : (if t111 = 2 then (some false) else (span_text.l0 kj20 a0 y105 (y105.length : Int) (wrap64 (x19_2 + 1)))) = some r := H
                  have A28 := Aside0.mk A280
                  clear A280
                  by_cases c29 : t111 = 2
                  ·
                   rw [if_pos c29] at H
                   have c29b0 : (t111 == 2) = true := beq_iff_eq.mpr c29
                   have c29b1 : (t111 != 2) = false := bne_eq_false_iff_eq.mpr c29
                   clear c29
                   obtain rfl := Option.some.inj H
                   have tkA28 : True := trivial
                   go_wp2_with (first | (go_at_call 90; clear tkA28; (with_reducible refine (utf_Class.calls kj20 (wrap64 ((rd y105 x19_2))) t111 _ A28.out).mono ?_); rintro e w' ⟨rfl, ⟨nd, rfl⟩⟩))
                   go_ret
                   exact ⟨by first | rfl | (simp [errW_none, errW_some] <;> rfl) | (simp only [← hji7, ← hji17]; first | rfl | (simp [errW_none, errW_some] <;> rfl)) | (simp [*, errW_none, errW_some] <;> rfl), by repeat (with_reducible first | exact HB.out | apply below_alloc | apply pw_below_drewN | apply below_drew1)⟩
                  ·
                   rw [if_neg c29] at H
                   have c29b0 : (t111 == 2) = false := beq_eq_false_iff_ne.mpr c29
                   have c29b1 : (t111 != 2) = true := bne_iff_ne.mpr c29
                   have H' := Aside0.mk H
                   clear H
                   have tkA28 : True := trivial
                   go_wp2_with (first | (go_at_call 90; clear tkA28; (with_reducible refine (utf_Class.calls kj20 (wrap64 ((rd y105 x19_2))) t111 _ A28.out).mono ?_); rintro e w' ⟨rfl, ⟨nd, rfl⟩⟩))
                   go_roundg kj20
                   case measure => have := HJ1.out; have := HK2.out; have := HJ20.out; omega
                   case rel => exact ⟨(wrap64 (x19_2 + 1)), (by first | rfl | (simp; done) | (simp [*]; done) | (simp [bne, beq_nil_E]; done)), H', ⟨by have := HJ1.out; have := HK2.out; have := HJ20.out; omega⟩, ⟨by (with_reducible repeat (first | apply Kd.V_alloc | apply Kd.V_drewN | apply Kd.V_drew)); exact HO_17.out⟩, ⟨by repeat (with_reducible first | exact HB.out | apply below_alloc | apply pw_below_drewN | apply below_drew1)⟩⟩
                 ·
                  rw [if_neg c27] at H
                  have c27b0 : ((bt a0 (ji17)) == 10) = false := beq_eq_false_iff_ne.mpr c27
                  have c27b1 : ((bt a0 (ji17)) != 10) = true := bne_iff_ne.mpr c27
                  have H' := Aside0.mk H
                  clear H
                  go_wp2
                  go_roundg kj20
                  case measure => have := HJ1.out; have := HK2.out; have := HJ20.out; omega
                  case rel => exact ⟨(wrap64 (x19_2 + 1)), (by first | rfl | (simp; done) | (simp [*]; done) | (simp [bne, beq_nil_E]; done)), H', ⟨by have := HJ1.out; have := HK2.out; have := HJ20.out; omega⟩, ⟨by (with_reducible repeat (first | apply Kd.V_alloc | apply Kd.V_drewN | apply Kd.V_drew)); exact HO_17.out⟩, ⟨by repeat (with_reducible first | exact HB.out | apply below_alloc | apply pw_below_drewN | apply below_drew1)⟩⟩
             ·
              rw [if_neg c19] at H
              exact absurd H (by simp)
            ·
             rw [if_neg c18] at H
             exact absurd H (by simp)
           ·
            rw [if_neg c16] at H
            exact absurd H (by simp)
          ·
           rw [if_neg c15] at H
           exact absurd H (by simp)
         ·
          rw [if_neg c14] at H
          have c14b0 : decide (x19_2 < (y105.length : Int)) = false := decide_eq_false c14
          clear c14
          obtain rfl := Option.some.inj H
          go_wp2
          go_ret
          exact ⟨by first | rfl | (simp [errW_none, errW_some] <;> rfl) | (simp only [← hji7]; first | rfl | (simp [errW_none, errW_some] <;> rfl)) | (simp [*, errW_none, errW_some] <;> rfl), by repeat (with_reducible first | exact HB.out | apply below_alloc | apply pw_below_drewN | apply below_drew1)⟩
      ·
       rw [if_neg c10] at H
       exact absurd H (by simp)
     ·
      rw [if_neg c9] at H
      exact absurd H (by simp)
    ·
     rw [if_neg c8] at H
     exact absurd H (by simp)

end Go.Proofs.YtmfffpfenhgjbaaDoor.X
