-- Written by a program of this session (wip/mkprint.py over the kit's print) out of the translation; Lean checks it.
import Derived.Test.YticaofendehebaaDoorX0
import Derived.Test.YticaofendehebaaDoorX11
import Derived.Test.YticaofendehebaaDoorX12
namespace Go.Proofs.YticaofendehebaaDoor.X
open Go.RowKit Go.Proofs.YticaofendehebaaDoor.G Go.Proofs.YticaofendehebaaDoorW.PrintWords Go.Proofs.YticaofendehebaaDoorW.PrintLast Go.Proofs.YticaofendehebaaDoorW.PrintMore
attribute [local go_sem] max2_int min2_int max_two min_two max_three min_three max_four min_four   -- for this text's walks alone
set_option linter.unusedVariables false
set_option linter.unusedSimpArgs false

/-! ### emendationref11_Of: function 21 -/
mutual
def emendationref11_Of.j0 : Nat → ByteArray → Bool → Option (Int)
 | 0, _, _ => none
 | k + 1, x0, x29 => if x29 = true then (some 2) else ((emendationref02_Run.f k x0 45).bind fun t225 => (if t225 ≥ 3 then (emendationref11_Of.j1 k x0 (t225 == (x0.size : Int))) else (emendationref11_Of.j1 k x0 false)))
def emendationref11_Of.j1 : Nat → ByteArray → Bool → Option (Int)
 | 0, _, _ => none
 | k + 1, x0, x39 => if x39 = true then (some 3) else ((emendationref02_Run.f k x0 96).bind fun t226 => (if t226 ≥ 3 then (if 0 ≤ t226 then (if t226 ≤ (x0.size : Int) then ((emendationref02_Longest.f k (x0.extract (t226 : Int).toNat x0.size) 96).bind fun t227 => (emendationref11_Of.j2 k x0 (t227 == 0))) else (none)) else (none)) else (emendationref11_Of.j2 k x0 false)))
def emendationref11_Of.j2 : Nat → ByteArray → Bool → Option (Int)
 | 0, _, _ => none
 | k + 1, x0, x50 => if x50 = true then (some 4) else (if 0 < (x0.size : Int) then (if (bt x0 0) = 62 then (some 5) else (if x0.toList = ([45] : List UInt8) then (emendationref11_Of.j3 k x0 true) else (if (x0.size : Int) > 1 then (if 0 ≤ 2 then (if 2 ≤ (x0.size : Int) then (emendationref11_Of.j3 k x0 ((x0.extract 0 2).toList == ([45, 32] : List UInt8))) else (none)) else (none)) else (emendationref11_Of.j3 k x0 false)))) else (none))
def emendationref11_Of.j3 : Nat → ByteArray → Bool → Option (Int)
 | 0, _, _ => none
 | k + 1, x0, x65 => if x65 = true then (some 6) else ((emendationref11_define.f k x0).bind fun bt228 => (if bt228.2.2 = true then (some 7) else (some 8)))
end
def emendationref11_Of.f (k : Nat) (a0 : ByteArray) : Option (Int) := (emendationref02_Trim.f k a0).bind fun t223 => (if t223.toList = ([] : List UInt8) then (some 1) else ((emendationref02_Run.f k a0 35).bind fun t224 => (if t224 ≥ 1 then (if t224 ≤ 6 then (if (a0.size : Int) = t224 then (emendationref11_Of.j0 k a0 true) else (if 0 ≤ t224 then (if t224 < (a0.size : Int) then (emendationref11_Of.j0 k a0 ((bt a0 t224) == 32)) else (none)) else (none))) else (emendationref11_Of.j0 k a0 false)) else (emendationref11_Of.j0 k a0 false))))
set_option maxHeartbeats 8000000 in
set_option maxRecDepth 100000 in
theorem emendationref11_Of.calls (k : Nat) (a0 : ByteArray) (r : Int) (w : World) (h : emendationref11_Of.f k a0 = some r) :
  Calls Tryd.prog 21 #[.string a0] w fun e w' => e = .returned (.int .i64 r) ∧ Below w.heap.size w w' := by
 have HB := Aside0.mk (Below.refl w.heap.size w)
 have H : ((emendationref02_Trim.f k a0).bind fun t223 => (if t223.toList = ([] : List UInt8) then (some 1) else ((emendationref02_Run.f k a0 35).bind fun t224 => (if t224 ≥ 1 then (if t224 ≤ 6 then (if (a0.size : Int) = t224 then (emendationref11_Of.j0 k a0 true) else (if 0 ≤ t224 then (if t224 < (a0.size : Int) then (emendationref11_Of.j0 k a0 ((bt a0 t224) == 32)) else (none)) else (none))) else (emendationref11_Of.j0 k a0 false)) else (emendationref11_Of.j0 k a0 false))))) = some r := h
 clear h
 replace H := Option.bind_eq_some_iff.mp H
 obtain ⟨t223, A20, H⟩ := H
 replace H : (if t223.toList = ([] : List UInt8) then (some 1) else ((emendationref02_Run.f k a0 35).bind fun t224 => (if t224 ≥ 1 then (if t224 ≤ 6 then (if (a0.size : Int) = t224 then (emendationref11_Of.j0 k a0 true) else (if 0 ≤ t224 then (if t224 < (a0.size : Int) then (emendationref11_Of.j0 k a0 ((bt a0 t224) == 32)) else (none)) else (none))) else (emendationref11_Of.j0 k a0 false)) else (emendationref11_Of.j0 k a0 false)))) = some r := H
 have A2 := Aside0.mk A20
 clear A20
 by_cases c3 : t223.toList = ([] : List UInt8)
 ·
  rw [if_pos c3] at H
  have c3b0 : (t223.toList == ([] : List UInt8)) = true := beq_iff_eq.mpr c3
  have c3b1 : (t223.toList != ([] : List UInt8)) = false := bne_eq_false_iff_eq.mpr c3
  (try (have c3b0e := c3b0; simp only [beq_nil_E] at c3b0e))
  clear c3
  obtain rfl := Option.some.inj H
  go_enter Tryd.func21, Tryd.ntmps21
  go_wp2_with (first | ((with_reducible refine gate_callee (f := 39) rfl ?_); refine goesL_ (some 8) rfl rfl Tryd.func39 (by kernel_rfl) rfl #[.string a0] rfl (by (try simp only [List.map_toArray, List.map_cons, List.map_nil]); first | done | rfl | (simp only [List.length_drop, List.length_take]; rfl)) ?_; (with_reducible refine (emendationref02_Trim.calls k a0 t223 _ A2.out).mono ?_); rintro e w' ⟨rfl, ⟨nd, rfl⟩⟩; refine ⟨_, rfl, ?_⟩))
  go_ret
  exact ⟨by first | rfl | (simp [errW_none, errW_some] <;> rfl) | (simp [*, errW_none, errW_some] <;> rfl), by repeat (first | (with_reducible first | exact HB.out | apply below_alloc | apply pw_below_drewN | apply below_drew1) | exact HB.out)⟩
 ·
  rw [if_neg c3] at H
  have c3b0 : (t223.toList == ([] : List UInt8)) = false := beq_eq_false_iff_ne.mpr c3
  have c3b1 : (t223.toList != ([] : List UInt8)) = true := bne_iff_ne.mpr c3
  (try (have c3b0e := c3b0; simp only [beq_nil_E] at c3b0e))
  replace H := Option.bind_eq_some_iff.mp H
  obtain ⟨t224, A40, H⟩ := H
  replace H : (if t224 ≥ 1 then (if t224 ≤ 6 then (if (a0.size : Int) = t224 then (emendationref11_Of.j0 k a0 true) else (if 0 ≤ t224 then (if t224 < (a0.size : Int) then (emendationref11_Of.j0 k a0 ((bt a0 t224) == 32)) else (none)) else (none))) else (emendationref11_Of.j0 k a0 false)) else (emendationref11_Of.j0 k a0 false)) = some r := H
  have A4 := Aside0.mk A40
  clear A40
  have HC5 := Aside0.mk H
  clear H
  go_enter Tryd.func21, Tryd.ntmps21
  go_upto_region 4 with (first | ((with_reducible refine gate_callee (f := 39) rfl ?_); refine goesL_ (some 8) rfl rfl Tryd.func39 (by kernel_rfl) rfl #[.string a0] rfl (by (try simp only [List.map_toArray, List.map_cons, List.map_nil]); first | done | rfl | (simp only [List.length_drop, List.length_take]; rfl)) ?_; (with_reducible refine (emendationref02_Trim.calls k a0 t223 _ A2.out).mono ?_); rintro e w' ⟨rfl, ⟨nd, rfl⟩⟩; refine ⟨_, rfl, ?_⟩) | ((with_reducible refine gate_callee (f := 38) rfl ?_); refine goesL_ (some 11) rfl rfl Tryd.func38 (by kernel_rfl) rfl #[.string a0, .int .u8 35] rfl (by (try simp only [List.map_toArray, List.map_cons, List.map_nil]); first | done | rfl | (simp only [List.length_drop, List.length_take]; rfl)) ?_; (with_reducible refine (emendationref02_Run.calls k a0 35 t224 _ A4.out).mono ?_); rintro e w' ⟨rfl, ⟨nd, rfl⟩⟩; refine ⟨_, rfl, ?_⟩))
  (try simp only [Act.put, List.setIfInBounds_toArray, List.set_cons_zero, List.set_cons_succ])
  go_cut [29] (fun v29 wc => ∃ (kq : Nat) (x29_4 : Bool), v29 = .bool x29_4 ∧ Aside0 (emendationref11_Of.j0 kq a0 x29_4 = some r) ∧ Aside0 (kq ≤ k) ∧ Aside0 (Below w.heap.size w wc))
  case first =>
   have H := HC5.out
   clear HC5
   by_cases c6 : t224 ≥ 1
   ·
    rw [if_pos c6] at H
    have c6b0 : decide (1 ≤ t224) = true := decide_eq_true c6
    clear c6
    (first | rw [c6b0] | (simp only [i64_w, i32_w]; rw [c6b0]) | skip)
    by_cases c7 : t224 ≤ 6
    ·
     rw [if_pos c7] at H
     have c7b0 : decide (t224 ≤ 6) = true := decide_eq_true c7
     clear c7
     by_cases c8 : (a0.size : Int) = t224
     ·
      rw [if_pos c8] at H
      have c8b0 : ((a0.size : Int) == t224) = true := beq_iff_eq.mpr c8
      have c8b1 : ((a0.size : Int) != t224) = false := bne_eq_false_iff_eq.mpr c8
      clear c8
      have H' := Aside0.mk H
      clear H
      go_wp2
      go_meet
      case rel => exact ⟨_, (true), (by first | rfl | (simp; done) | (simp [*]; done) | (simp [bne, beq_nil_E]; done)), H', ⟨by first | omega | exact Nat.le_refl _⟩, ⟨by repeat (first | (with_reducible first | exact HB.out | apply below_alloc | apply pw_below_drewN | apply below_drew1) | exact HB.out)⟩⟩
     ·
      rw [if_neg c8] at H
      have c8b0 : ((a0.size : Int) == t224) = false := beq_eq_false_iff_ne.mpr c8
      have c8b1 : ((a0.size : Int) != t224) = true := bne_iff_ne.mpr c8
      by_cases c9 : 0 ≤ t224
      ·
       rw [if_pos c9] at H
       have c9b0 : decide (0 ≤ t224) = true := decide_eq_true c9
       clear c9
       by_cases c10 : t224 < (a0.size : Int)
       ·
        rw [if_pos c10] at H
        have c10b0 : decide (t224 < (a0.size : Int)) = true := decide_eq_true c10
        clear c10
        have H' := Aside0.mk H
        clear H
        have p11 : 0 ≤ (t224 : Int) := of_decide_eq_true (by first | (with_reducible assumption) | assumption)
        have q11 : t224 < (a0.size : Int) := of_decide_eq_true (by first | (with_reducible assumption) | assumption)
        have hx11 := bt_at a0 t224
        replace p11 := eq_true p11
        replace q11 := eq_true q11
        go_wp2
        go_meet
        case rel => exact ⟨_, (((bt a0 t224) == 32)), (by first | rfl | (simp; done) | (simp [*]; done) | (simp [bne, beq_nil_E]; done)), H', ⟨by first | omega | exact Nat.le_refl _⟩, ⟨by repeat (first | (with_reducible first | exact HB.out | apply below_alloc | apply pw_below_drewN | apply below_drew1) | exact HB.out)⟩⟩
       ·
        rw [if_neg c10] at H
        exact absurd H (by simp)
      ·
       rw [if_neg c9] at H
       exact absurd H (by simp)
    ·
     rw [if_neg c7] at H
     have c7b0 : decide (t224 ≤ 6) = false := decide_eq_false c7
     clear c7
     have H' := Aside0.mk H
     clear H
     go_wp2
     go_meet
     case rel => exact ⟨_, (false), (by first | rfl | (simp; done) | (simp [*]; done) | (simp [bne, beq_nil_E]; done)), H', ⟨by first | omega | exact Nat.le_refl _⟩, ⟨by repeat (first | (with_reducible first | exact HB.out | apply below_alloc | apply pw_below_drewN | apply below_drew1) | exact HB.out)⟩⟩
   ·
    rw [if_neg c6] at H
    have c6b0 : decide (1 ≤ t224) = false := decide_eq_false c6
    clear c6
    (first | rw [c6b0] | (simp only [i64_w, i32_w]; rw [c6b0]) | skip)
    have H' := Aside0.mk H
    clear H
    go_wp2
    go_meet
    case rel => exact ⟨_, (false), (by first | rfl | (simp; done) | (simp [*]; done) | (simp [bne, beq_nil_E]; done)), H', ⟨by first | omega | exact Nat.le_refl _⟩, ⟨by repeat (first | (with_reducible first | exact HB.out | apply below_alloc | apply pw_below_drewN | apply below_drew1) | exact HB.out)⟩⟩
  case rest =>
   clear HC5
   try clear c1
   try clear p1
   try clear q1
   try clear hx1
   try clear c2
   try clear p2
   try clear c3
   try clear c3b0
   try clear c3b1
   try clear c6
   try clear c6b0
   try clear c7
   try clear c7b0
   try clear c8
   try clear c8b0
   try clear c8b1
   try clear c9
   try clear c9b0
   try clear c10
   try clear c10b0
   try clear p11
   try clear q11
   try clear hx11
   try clear p11
   try clear q11
   obtain ⟨kq, x29_4, rfl, HA, HJ4, HB⟩ := hcut
   cases kq with
   | zero => exact absurd HA.out (by simp [emendationref11_Of.j0])
   | succ kj4 =>
    have H := HA.out
    clear HA
    simp only [emendationref11_Of.j0] at H
    by_cases c12 : x29_4 = true
    ·
     subst c12
     have H1 : (some 2) = some r := by rw [if_pos rfl] at H; exact H
     clear H
     have H := H1
     clear H1
     obtain rfl := Option.some.inj H
     go_wp2
     go_ret
     exact ⟨by first | rfl | (simp [errW_none, errW_some] <;> rfl) | (simp [*, errW_none, errW_some] <;> rfl), by repeat (first | (with_reducible first | exact HB.out | apply below_alloc | apply pw_below_drewN | apply below_drew1) | exact HB.out)⟩
    ·
     replace c12 := Bool.eq_false_iff.mpr c12
     subst c12
     have H1 : ((emendationref02_Run.f kj4 a0 45).bind fun t225 => (if t225 ≥ 3 then (emendationref11_Of.j1 kj4 a0 (t225 == (a0.size : Int))) else (emendationref11_Of.j1 kj4 a0 false))) = some r := by rw [if_neg (show ¬ (false = true) by decide)] at H; exact H
     clear H
     have H := H1
     clear H1
     replace H := Option.bind_eq_some_iff.mp H
     obtain ⟨t225, A130, H⟩ := H
     replace H : (if t225 ≥ 3 then (emendationref11_Of.j1 kj4 a0 (t225 == (a0.size : Int))) else (emendationref11_Of.j1 kj4 a0 false)) = some r := H
     have A13 := Aside0.mk A130
     clear A130
     have HC14 := Aside0.mk H
     clear H
     go_upto_region 7 with (first | ((with_reducible refine gate_callee (f := 38) rfl ?_); refine goesL_ (some 31) rfl rfl Tryd.func38 (by kernel_rfl) rfl #[.string a0, .int .u8 45] rfl (by (try simp only [List.map_toArray, List.map_cons, List.map_nil]); first | done | rfl | (simp only [List.length_drop, List.length_take]; rfl)) ?_; (with_reducible refine (emendationref02_Run.calls kj4 a0 45 t225 _ A13.out).mono ?_); rintro e w' ⟨rfl, ⟨nd, rfl⟩⟩; refine ⟨_, rfl, ?_⟩))
     (try simp only [Act.put, List.setIfInBounds_toArray, List.set_cons_zero, List.set_cons_succ])
     go_cut [39] (fun v39 wc => ∃ (kq : Nat) (x39_13 : Bool), v39 = .bool x39_13 ∧ Aside0 (emendationref11_Of.j1 kq a0 x39_13 = some r) ∧ Aside0 (kq ≤ kj4) ∧ Aside0 (Below w.heap.size w wc))
     case first =>
      have H := HC14.out
      clear HC14
      by_cases c15 : t225 ≥ 3
      ·
       rw [if_pos c15] at H
       have c15b0 : decide (3 ≤ t225) = true := decide_eq_true c15
       clear c15
       (first | rw [c15b0] | (simp only [i64_w, i32_w]; rw [c15b0]) | skip)
       have H' := Aside0.mk H
       clear H
       go_wp2
       go_meet
       case rel => exact ⟨_, ((t225 == (a0.size : Int))), (by first | rfl | (simp; done) | (simp [*]; done) | (simp [bne, beq_nil_E]; done)), H', ⟨by have := HJ4.out; first | omega | exact Nat.le_refl _⟩, ⟨by repeat (first | (with_reducible first | exact HB.out | apply below_alloc | apply pw_below_drewN | apply below_drew1) | exact HB.out)⟩⟩
      ·
       rw [if_neg c15] at H
       have c15b0 : decide (3 ≤ t225) = false := decide_eq_false c15
       clear c15
       (first | rw [c15b0] | (simp only [i64_w, i32_w]; rw [c15b0]) | skip)
       have H' := Aside0.mk H
       clear H
       go_wp2
       go_meet
       case rel => exact ⟨_, (false), (by first | rfl | (simp; done) | (simp [*]; done) | (simp [bne, beq_nil_E]; done)), H', ⟨by have := HJ4.out; first | omega | exact Nat.le_refl _⟩, ⟨by repeat (first | (with_reducible first | exact HB.out | apply below_alloc | apply pw_below_drewN | apply below_drew1) | exact HB.out)⟩⟩
     case rest =>
      clear HC14
      try clear c1
      try clear p1
      try clear q1
      try clear hx1
      try clear c2
      try clear p2
      try clear c3
      try clear c3b0
      try clear c3b1
      try clear c6
      try clear c6b0
      try clear c7
      try clear c7b0
      try clear c8
      try clear c8b0
      try clear c8b1
      try clear c9
      try clear c9b0
      try clear c10
      try clear c10b0
      try clear p11
      try clear q11
      try clear hx11
      try clear c12
      try clear c15
      try clear c15b0
      try clear p1
      try clear p11
      try clear p2
      try clear q1
      try clear q11
      obtain ⟨kq, x39_13, rfl, HA, HJ13, HB⟩ := hcut
      cases kq with
      | zero => exact absurd HA.out (by simp [emendationref11_Of.j1])
      | succ kj13 =>
       have H := HA.out
       clear HA
       simp only [emendationref11_Of.j1] at H
       by_cases c16 : x39_13 = true
       ·
        subst c16
        have H1 : (some 3) = some r := by rw [if_pos rfl] at H; exact H
        clear H
        have H := H1
        clear H1
        obtain rfl := Option.some.inj H
        go_wp2
        go_ret
        exact ⟨by first | rfl | (simp [errW_none, errW_some] <;> rfl) | (simp [*, errW_none, errW_some] <;> rfl), by repeat (first | (with_reducible first | exact HB.out | apply below_alloc | apply pw_below_drewN | apply below_drew1) | exact HB.out)⟩
       ·
        replace c16 := Bool.eq_false_iff.mpr c16
        subst c16
        have H1 : ((emendationref02_Run.f kj13 a0 96).bind fun t226 => (if t226 ≥ 3 then (if 0 ≤ t226 then (if t226 ≤ (a0.size : Int) then ((emendationref02_Longest.f kj13 (a0.extract (t226 : Int).toNat a0.size) 96).bind fun t227 => (emendationref11_Of.j2 kj13 a0 (t227 == 0))) else (none)) else (none)) else (emendationref11_Of.j2 kj13 a0 false))) = some r := by rw [if_neg (show ¬ (false = true) by decide)] at H; exact H
        clear H
        have H := H1
        clear H1
        replace H := Option.bind_eq_some_iff.mp H
        obtain ⟨t226, A170, H⟩ := H
        replace H : (if t226 ≥ 3 then (if 0 ≤ t226 then (if t226 ≤ (a0.size : Int) then ((emendationref02_Longest.f kj13 (a0.extract (t226 : Int).toNat a0.size) 96).bind fun t227 => (emendationref11_Of.j2 kj13 a0 (t227 == 0))) else (none)) else (none)) else (emendationref11_Of.j2 kj13 a0 false)) = some r := H
        have A17 := Aside0.mk A170
        clear A170
        have HC18 := Aside0.mk H
        clear H
        go_upto_region 10 with (first | ((with_reducible refine gate_callee (f := 38) rfl ?_); refine goesL_ (some 41) rfl rfl Tryd.func38 (by kernel_rfl) rfl #[.string a0, .int .u8 96] rfl (by (try simp only [List.map_toArray, List.map_cons, List.map_nil]); first | done | rfl | (simp only [List.length_drop, List.length_take]; rfl)) ?_; (with_reducible refine (emendationref02_Run.calls kj13 a0 96 t226 _ A17.out).mono ?_); rintro e w' ⟨rfl, ⟨nd, rfl⟩⟩; refine ⟨_, rfl, ?_⟩))
        (try simp only [Act.put, List.setIfInBounds_toArray, List.set_cons_zero, List.set_cons_succ])
        go_cut [50] (fun v50 wc => ∃ (kq : Nat) (x50_17 : Bool), v50 = .bool x50_17 ∧ Aside0 (emendationref11_Of.j2 kq a0 x50_17 = some r) ∧ Aside0 (kq ≤ kj13) ∧ Aside0 (Below w.heap.size w wc))
        case first =>
         have H := HC18.out
         clear HC18
         by_cases c19 : t226 ≥ 3
         ·
          rw [if_pos c19] at H
          have c19b0 : decide (3 ≤ t226) = true := decide_eq_true c19
          clear c19
          (first | rw [c19b0] | (simp only [i64_w, i32_w]; rw [c19b0]) | skip)
          by_cases c20 : 0 ≤ t226
          ·
           rw [if_pos c20] at H
           have c20b0 := eq_true c20
           have c20b1 : decide (0 ≤ t226) = true := decide_eq_true c20
           clear c20
           by_cases c21 : t226 ≤ (a0.size : Int)
           ·
            rw [if_pos c21] at H
            have c21b0 := eq_true c21
            have c21b1 : decide (t226 ≤ (a0.size : Int)) = true := decide_eq_true c21
            clear c21
            replace H := Option.bind_eq_some_iff.mp H
            obtain ⟨t227, A220, H⟩ := H
            replace H : (emendationref11_Of.j2 kj13 a0 (t227 == 0)) = some r := H
            have A22 := Aside0.mk A220
            clear A220
            have H' := Aside0.mk H
            clear H
            have tkA22 : True := trivial
            go_wp2_with (first | (go_at_call 40; clear tkA22; (with_reducible refine (emendationref02_Longest.calls kj13 (a0.extract (t226 : Int).toNat a0.size) 96 t227 _ A22.out).mono ?_); rintro e w23 ⟨rfl, hb⟩; have n0_ := Aside0.mk (below_step (by repeat (first | (with_reducible first | exact HB.out | apply below_alloc | apply pw_below_drewN | apply below_drew1) | exact HB.out)) hb); clear HB; have HB := n0_; clear n0_; (try clear hb); (try clear hb2); (try clear hk); (try clear hi)))
            go_meet
            case rel => exact ⟨_, ((t227 == 0)), (by first | rfl | (simp; done) | (simp [*]; done) | (simp [bne, beq_nil_E]; done)), H', ⟨by have := HJ4.out; have := HJ13.out; first | omega | exact Nat.le_refl _⟩, ⟨by repeat (first | (with_reducible first | exact HB.out | apply below_alloc | apply pw_below_drewN | apply below_drew1) | exact HB.out)⟩⟩
           ·
            rw [if_neg c21] at H
            exact absurd H (by simp)
          ·
           rw [if_neg c20] at H
           exact absurd H (by simp)
         ·
          rw [if_neg c19] at H
          have c19b0 : decide (3 ≤ t226) = false := decide_eq_false c19
          clear c19
          (first | rw [c19b0] | (simp only [i64_w, i32_w]; rw [c19b0]) | skip)
          have H' := Aside0.mk H
          clear H
          go_wp2
          go_meet
          case rel => exact ⟨_, (false), (by first | rfl | (simp; done) | (simp [*]; done) | (simp [bne, beq_nil_E]; done)), H', ⟨by have := HJ4.out; have := HJ13.out; first | omega | exact Nat.le_refl _⟩, ⟨by repeat (first | (with_reducible first | exact HB.out | apply below_alloc | apply pw_below_drewN | apply below_drew1) | exact HB.out)⟩⟩
        case rest =>
         clear HC18
         try clear c1
         try clear p1
         try clear q1
         try clear hx1
         try clear c2
         try clear p2
         try clear c3
         try clear c3b0
         try clear c3b1
         try clear c6
         try clear c6b0
         try clear c7
         try clear c7b0
         try clear c8
         try clear c8b0
         try clear c8b1
         try clear c9
         try clear c9b0
         try clear c10
         try clear c10b0
         try clear p11
         try clear q11
         try clear hx11
         try clear c12
         try clear c15
         try clear c15b0
         try clear c16
         try clear c19
         try clear c19b0
         try clear c20
         try clear c20b0
         try clear c20b1
         try clear c21
         try clear c21b0
         try clear c21b1
         try clear p1
         try clear p11
         try clear p2
         try clear q1
         try clear q11
         obtain ⟨kq, x50_17, rfl, HA, HJ17, HB⟩ := hcut
         cases kq with
         | zero => exact absurd HA.out (by simp [emendationref11_Of.j2])
         | succ kj17 =>
          have H := HA.out
          clear HA
          simp only [emendationref11_Of.j2] at H
          by_cases c24 : x50_17 = true
          ·
           subst c24
           have H1 : (some 4) = some r := by rw [if_pos rfl] at H; exact H
           clear H
           have H := H1
           clear H1
           obtain rfl := Option.some.inj H
           go_wp2
           go_ret
           exact ⟨by first | rfl | (simp [errW_none, errW_some] <;> rfl) | (simp [*, errW_none, errW_some] <;> rfl), by repeat (first | (with_reducible first | exact HB.out | apply below_alloc | apply pw_below_drewN | apply below_drew1) | exact HB.out)⟩
          ·
           replace c24 := Bool.eq_false_iff.mpr c24
           subst c24
           have H1 : (if 0 < (a0.size : Int) then (if (bt a0 0) = 62 then (some 5) else (if a0.toList = ([45] : List UInt8) then (emendationref11_Of.j3 kj17 a0 true) else (if (a0.size : Int) > 1 then (if 0 ≤ 2 then (if 2 ≤ (a0.size : Int) then (emendationref11_Of.j3 kj17 a0 ((a0.extract 0 2).toList == ([45, 32] : List UInt8))) else (none)) else (none)) else (emendationref11_Of.j3 kj17 a0 false)))) else (none)) = some r := by rw [if_neg (show ¬ (false = true) by decide)] at H; exact H
           clear H
           have H := H1
           clear H1
           by_cases c25 : 0 < (a0.size : Int)
           ·
            rw [if_pos c25] at H
            have c25b0 : decide (0 < (a0.size : Int)) = true := decide_eq_true c25
            have c25b1 : decide (0 < a0.size) = true := decide_eq_true (by omega)
            clear c25
            by_cases c27 : (bt a0 0) = 62
            ·
             rw [if_pos c27] at H
             have c27b0 : ((bt a0 0) == 62) = true := beq_iff_eq.mpr c27
             have c27b1 : ((bt a0 0) != 62) = false := bne_eq_false_iff_eq.mpr c27
             clear c27
             obtain rfl := Option.some.inj H
             have p26 : 0 ≤ (0 : Int) := (by omega)
             have q26 : 0 < a0.size := (by have : (0 : Int) < (a0.size : Int) := of_decide_eq_true (by first | (with_reducible assumption) | assumption); omega)
             have hx26 : ∀ h : 0 < a0.size, ((a0[0]'h).toNat : Int) = bt a0 0 := bt_at a0 0
             clear p26
             have qi26 : (0 < (a0.size : Int)) = True := eq_true (of_decide_eq_true (by first | (with_reducible assumption) | assumption))
             replace q26 := eq_true q26
             go_wp2
             go_ret
             exact ⟨by first | rfl | (simp [errW_none, errW_some] <;> rfl) | (simp [*, errW_none, errW_some] <;> rfl), by repeat (first | (with_reducible first | exact HB.out | apply below_alloc | apply pw_below_drewN | apply below_drew1) | exact HB.out)⟩
            ·
             rw [if_neg c27] at H
             have c27b0 : ((bt a0 0) == 62) = false := beq_eq_false_iff_ne.mpr c27
             have c27b1 : ((bt a0 0) != 62) = true := bne_iff_ne.mpr c27
             have HC28 := Aside0.mk H
             clear H
             have p26 : 0 ≤ (0 : Int) := (by omega)
             have q26 : 0 < a0.size := (by have : (0 : Int) < (a0.size : Int) := of_decide_eq_true (by first | (with_reducible assumption) | assumption); omega)
             have hx26 : ∀ h : 0 < a0.size, ((a0[0]'h).toNat : Int) = bt a0 0 := bt_at a0 0
             clear p26
             have qi26 : (0 < (a0.size : Int)) = True := eq_true (of_decide_eq_true (by first | (with_reducible assumption) | assumption))
             replace q26 := eq_true q26
             go_upto_region 14 with (fail)
             go_cut [65] (fun v65 wc => ∃ (kq : Nat) (x65_27 : Bool), v65 = .bool x65_27 ∧ Aside0 (emendationref11_Of.j3 kq a0 x65_27 = some r) ∧ Aside0 (kq ≤ kj17) ∧ Aside0 (Below w.heap.size w wc))
             case first =>
              have H := HC28.out
              clear HC28
              by_cases c29 : a0.toList = ([45] : List UInt8)
              ·
               rw [if_pos c29] at H
               have c29b0 : (a0.toList == ([45] : List UInt8)) = true := beq_iff_eq.mpr c29
               have c29b1 : (a0.toList != ([45] : List UInt8)) = false := bne_eq_false_iff_eq.mpr c29
               clear c29
               (first | rw [c29b0] | (simp only [i64_w, i32_w]; rw [c29b0]) | skip)
               have H' := Aside0.mk H
               clear H
               go_wp2
               go_meet
               case rel => exact ⟨_, (true), (by first | rfl | (simp; done) | (simp [*]; done) | (simp [bne, beq_nil_E]; done)), H', ⟨by have := HJ4.out; have := HJ13.out; have := HJ17.out; first | omega | exact Nat.le_refl _⟩, ⟨by repeat (first | (with_reducible first | exact HB.out | apply below_alloc | apply pw_below_drewN | apply below_drew1) | exact HB.out)⟩⟩
              ·
               rw [if_neg c29] at H
               have c29b0 : (a0.toList == ([45] : List UInt8)) = false := beq_eq_false_iff_ne.mpr c29
               have c29b1 : (a0.toList != ([45] : List UInt8)) = true := bne_iff_ne.mpr c29
               (first | rw [c29b0] | (simp only [i64_w, i32_w]; rw [c29b0]) | skip)
               by_cases c30 : (a0.size : Int) > 1
               ·
                rw [if_pos c30] at H
                have c30b0 : decide (1 < (a0.size : Int)) = true := decide_eq_true c30
                have c30b1 : decide (1 < a0.size) = true := decide_eq_true (by omega)
                clear c30
                by_cases c31 : 0 ≤ 2
                ·
                 rw [if_pos c31] at H
                 have c31b0 := eq_true c31
                 have c31b1 : decide (0 ≤ 2) = true := decide_eq_true c31
                 clear c31
                 by_cases c32 : 2 ≤ (a0.size : Int)
                 ·
                  rw [if_pos c32] at H
                  have c32b0 := eq_true c32
                  have c32b1 : decide (2 ≤ (a0.size : Int)) = true := decide_eq_true c32
                  clear c32
                  have H' := Aside0.mk H
                  clear H
                  go_wp2
                  go_meet
                  case rel => exact ⟨_, (((a0.extract 0 2).toList == ([45, 32] : List UInt8))), (by first | rfl | (simp; done) | (simp [*]; done) | (simp [bne, beq_nil_E]; done)), H', ⟨by have := HJ4.out; have := HJ13.out; have := HJ17.out; first | omega | exact Nat.le_refl _⟩, ⟨by repeat (first | (with_reducible first | exact HB.out | apply below_alloc | apply pw_below_drewN | apply below_drew1) | exact HB.out)⟩⟩
                 ·
                  rw [if_neg c32] at H
                  exact absurd H (by simp)
                ·
                 rw [if_neg c31] at H
                 exact absurd H (by simp)
               ·
                rw [if_neg c30] at H
                have c30b0 : decide (1 < (a0.size : Int)) = false := decide_eq_false c30
                have c30b1 : decide (1 < a0.size) = false := decide_eq_false (by omega)
                clear c30
                have H' := Aside0.mk H
                clear H
                go_wp2
                go_meet
                case rel => exact ⟨_, (false), (by first | rfl | (simp; done) | (simp [*]; done) | (simp [bne, beq_nil_E]; done)), H', ⟨by have := HJ4.out; have := HJ13.out; have := HJ17.out; first | omega | exact Nat.le_refl _⟩, ⟨by repeat (first | (with_reducible first | exact HB.out | apply below_alloc | apply pw_below_drewN | apply below_drew1) | exact HB.out)⟩⟩
             case rest =>
              clear HC28
              try clear c1
              try clear p1
              try clear q1
              try clear hx1
              try clear c2
              try clear p2
              try clear q2
              try clear hx2
              try clear qi2
              try clear c3
              try clear c3b0
              try clear c3b1
              try clear c6
              try clear c6b0
              try clear c7
              try clear c7b0
              try clear c8
              try clear c8b0
              try clear c8b1
              try clear c9
              try clear c9b0
              try clear c10
              try clear c10b0
              try clear p11
              try clear q11
              try clear hx11
              try clear c12
              try clear c15
              try clear c15b0
              try clear c16
              try clear c19
              try clear c19b0
              try clear c20
              try clear c20b0
              try clear c20b1
              try clear c21
              try clear c21b0
              try clear c21b1
              try clear c24
              try clear c25
              try clear c25b0
              try clear c25b1
              try clear p26
              try clear q26
              try clear hx26
              try clear qi26
              try clear c27
              try clear c27b0
              try clear c27b1
              try clear c29
              try clear c29b0
              try clear c29b1
              try clear c30
              try clear c30b0
              try clear c30b1
              try clear c31
              try clear c31b0
              try clear c31b1
              try clear c32
              try clear c32b0
              try clear c32b1
              try clear p1
              try clear p11
              try clear p2
              try clear p26
              try clear q1
              try clear q11
              try clear q26
              obtain ⟨kq, x65_27, rfl, HA, HJ27, HB⟩ := hcut
              cases kq with
              | zero => exact absurd HA.out (by simp [emendationref11_Of.j3])
              | succ kj27 =>
               have H := HA.out
               clear HA
               simp only [emendationref11_Of.j3] at H
               by_cases c33 : x65_27 = true
               ·
                subst c33
                have H1 : (some 6) = some r := by rw [if_pos rfl] at H; exact H
                clear H
                have H := H1
                clear H1
                obtain rfl := Option.some.inj H
                go_wp2
                go_ret
                exact ⟨by first | rfl | (simp [errW_none, errW_some] <;> rfl) | (simp [*, errW_none, errW_some] <;> rfl), by repeat (first | (with_reducible first | exact HB.out | apply below_alloc | apply pw_below_drewN | apply below_drew1) | exact HB.out)⟩
               ·
                replace c33 := Bool.eq_false_iff.mpr c33
                subst c33
                have H1 : ((emendationref11_define.f kj27 a0).bind fun bt228 => (if bt228.2.2 = true then (some 7) else (some 8))) = some r := by rw [if_neg (show ¬ (false = true) by decide)] at H; exact H
                clear H
                have H := H1
                clear H1
                replace H := Option.bind_eq_some_iff.mp H
                obtain ⟨⟨t228, t229, t230⟩, A340, H⟩ := H
                replace H : (if t230 = true then (some 7) else (some 8)) = some r := H
                have A34 := Aside0.mk A340
                clear A340
                by_cases c35 : t230 = true
                ·
                 subst c35
                 have H1 : (some 7) = some r := by rw [if_pos rfl] at H; exact H
                 clear H
                 have H := H1
                 clear H1
                 obtain rfl := Option.some.inj H
                 go_wp2_with (first | ((with_reducible refine gate_callee (f := 41) rfl ?_); refine goesL_ (some 68) rfl rfl Tryd.func41 (by kernel_rfl) rfl #[.string a0] rfl (by (try simp only [List.map_toArray, List.map_cons, List.map_nil]); first | done | rfl | (simp only [List.length_drop, List.length_take]; rfl)) ?_; (with_reducible refine (emendationref11_define.calls kj27 a0 t228 t229 true _ A34.out).mono ?_); rintro e w' ⟨rfl, ⟨nd, rfl⟩⟩; refine ⟨_, rfl, ?_⟩))
                 go_ret
                 exact ⟨by first | rfl | (simp [errW_none, errW_some] <;> rfl) | (simp [*, errW_none, errW_some] <;> rfl), by repeat (first | (with_reducible first | exact HB.out | apply below_alloc | apply pw_below_drewN | apply below_drew1) | exact HB.out)⟩
                ·
                 replace c35 := Bool.eq_false_iff.mpr c35
                 subst c35
                 have H1 : (some 8) = some r := by rw [if_neg (show ¬ (false = true) by decide)] at H; exact H
                 clear H
                 have H := H1
                 clear H1
                 obtain rfl := Option.some.inj H
                 go_wp2_with (first | ((with_reducible refine gate_callee (f := 41) rfl ?_); refine goesL_ (some 68) rfl rfl Tryd.func41 (by kernel_rfl) rfl #[.string a0] rfl (by (try simp only [List.map_toArray, List.map_cons, List.map_nil]); first | done | rfl | (simp only [List.length_drop, List.length_take]; rfl)) ?_; (with_reducible refine (emendationref11_define.calls kj27 a0 t228 t229 false _ A34.out).mono ?_); rintro e w' ⟨rfl, ⟨nd, rfl⟩⟩; refine ⟨_, rfl, ?_⟩))
                 go_ret
                 exact ⟨by first | rfl | (simp [errW_none, errW_some] <;> rfl) | (simp [*, errW_none, errW_some] <;> rfl), by repeat (first | (with_reducible first | exact HB.out | apply below_alloc | apply pw_below_drewN | apply below_drew1) | exact HB.out)⟩
           ·
            rw [if_neg c25] at H
            exact absurd H (by simp)

/-! ### emendationref11_Head: function 18 -/
def emendationref11_Head.f (k : Nat) (a0 : ByteArray) : Option (Int × ByteArray) := (emendationref11_Of.f k a0).bind fun t231 => (if t231 = 2 then ((emendationref02_Run.f k a0 35).bind fun t232 => (if 0 ≤ t232 then (if t232 ≤ (a0.size : Int) then ((emendationref02_Trim.f k (a0.extract (t232 : Int).toNat a0.size)).bind fun t233 => (some (t232, t233))) else (none)) else (none))) else (some (0, (⟨#[]⟩ : ByteArray))))
set_option maxHeartbeats 8000000 in
set_option maxRecDepth 100000 in
theorem emendationref11_Head.calls (k : Nat) (a0 : ByteArray) (r1 : Int) (r2 : ByteArray) (w : World) (h : emendationref11_Head.f k a0 = some (r1, r2)) :
  Calls Tryd.prog 18 #[.string a0] w fun e w' => e = .returned (.tuple #[.int .i64 r1, .string r2]) ∧ Below w.heap.size w w' := by
 have HB := Aside0.mk (Below.refl w.heap.size w)
 have H : ((emendationref11_Of.f k a0).bind fun t231 => (if t231 = 2 then ((emendationref02_Run.f k a0 35).bind fun t232 => (if 0 ≤ t232 then (if t232 ≤ (a0.size : Int) then ((emendationref02_Trim.f k (a0.extract (t232 : Int).toNat a0.size)).bind fun t233 => (some (t232, t233))) else (none)) else (none))) else (some (0, (⟨#[]⟩ : ByteArray))))) = some (r1, r2) := h
 clear h
 replace H := Option.bind_eq_some_iff.mp H
 obtain ⟨t231, A20, H⟩ := H
 replace H : (if t231 = 2 then ((emendationref02_Run.f k a0 35).bind fun t232 => (if 0 ≤ t232 then (if t232 ≤ (a0.size : Int) then ((emendationref02_Trim.f k (a0.extract (t232 : Int).toNat a0.size)).bind fun t233 => (some (t232, t233))) else (none)) else (none))) else (some (0, (⟨#[]⟩ : ByteArray)))) = some (r1, r2) := H
 have A2 := Aside0.mk A20
 clear A20
 by_cases c3 : t231 = 2
 ·
  rw [if_pos c3] at H
  have c3b0 : (t231 == 2) = true := beq_iff_eq.mpr c3
  have c3b1 : (t231 != 2) = false := bne_eq_false_iff_eq.mpr c3
  clear c3
  replace H := Option.bind_eq_some_iff.mp H
  obtain ⟨t232, A40, H⟩ := H
  replace H : (if 0 ≤ t232 then (if t232 ≤ (a0.size : Int) then ((emendationref02_Trim.f k (a0.extract (t232 : Int).toNat a0.size)).bind fun t233 => (some (t232, t233))) else (none)) else (none)) = some (r1, r2) := H
  have A4 := Aside0.mk A40
  clear A40
  by_cases c5 : 0 ≤ t232
  ·
   rw [if_pos c5] at H
   have c5b0 := eq_true c5
   have c5b1 : decide (0 ≤ t232) = true := decide_eq_true c5
   clear c5
   by_cases c6 : t232 ≤ (a0.size : Int)
   ·
    rw [if_pos c6] at H
    have c6b0 := eq_true c6
    have c6b1 : decide (t232 ≤ (a0.size : Int)) = true := decide_eq_true c6
    clear c6
    replace H := Option.bind_eq_some_iff.mp H
    obtain ⟨t233, A70, H⟩ := H
    replace H : (some (t232, t233)) = some (r1, r2) := H
    have A7 := Aside0.mk A70
    clear A70
    simp only [Option.some.injEq, Prod.mk.injEq] at H
    obtain ⟨rfl, rfl⟩ := H
    go_enter Tryd.func18, Tryd.ntmps18
    go_wp2_with (first | ((with_reducible refine gate_callee (f := 21) rfl ?_); refine goesL_ (some 6) rfl rfl Tryd.func21 (by kernel_rfl) rfl #[.string a0] rfl (by (try simp only [List.map_toArray, List.map_cons, List.map_nil]); first | done | rfl | (simp only [List.length_drop, List.length_take]; rfl)) ?_; (with_reducible refine (emendationref11_Of.calls k a0 t231 _ A2.out).mono ?_); rintro e w8 ⟨rfl, hb⟩; refine ⟨_, rfl, ?_⟩; have n0_ := Aside0.mk (below_step (by repeat (first | (with_reducible first | exact HB.out | apply below_alloc | apply pw_below_drewN | apply below_drew1) | exact HB.out)) hb); clear HB; have HB := n0_; clear n0_; (try clear hb); (try clear hb2); (try clear hk); (try clear hi)) | ((with_reducible refine gate_callee (f := 38) rfl ?_); refine goesL_ (some 9) rfl rfl Tryd.func38 (by kernel_rfl) rfl #[.string a0, .int .u8 35] rfl (by (try simp only [List.map_toArray, List.map_cons, List.map_nil]); first | done | rfl | (simp only [List.length_drop, List.length_take]; rfl)) ?_; (with_reducible refine (emendationref02_Run.calls k a0 35 t232 _ A4.out).mono ?_); rintro e w' ⟨rfl, ⟨nd, rfl⟩⟩; refine ⟨_, rfl, ?_⟩) | ((with_reducible refine gate_callee (f := 39) rfl ?_); refine goesL_ (some 14) rfl rfl Tryd.func39 (by kernel_rfl) rfl #[.string (a0.extract (t232 : Int).toNat a0.size)] rfl (by (try simp only [List.map_toArray, List.map_cons, List.map_nil]); first | done | rfl | (simp only [List.length_drop, List.length_take]; rfl)) ?_; (with_reducible refine (emendationref02_Trim.calls k (a0.extract (t232 : Int).toNat a0.size) t233 _ A7.out).mono ?_); rintro e w' ⟨rfl, ⟨nd, rfl⟩⟩; refine ⟨_, rfl, ?_⟩))
    go_ret2
    exact ⟨by first | rfl | (simp [errW_none, errW_some] <;> rfl) | (simp [*, errW_none, errW_some] <;> rfl), by repeat (first | (with_reducible first | exact HB.out | apply below_alloc | apply pw_below_drewN | apply below_drew1) | exact HB.out)⟩
   ·
    rw [if_neg c6] at H
    exact absurd H (by simp)
  ·
   rw [if_neg c5] at H
   exact absurd H (by simp)
 ·
  rw [if_neg c3] at H
  have c3b0 : (t231 == 2) = false := beq_eq_false_iff_ne.mpr c3
  have c3b1 : (t231 != 2) = true := bne_iff_ne.mpr c3
  simp only [Option.some.injEq, Prod.mk.injEq] at H
  obtain ⟨rfl, rfl⟩ := H
  go_enter Tryd.func18, Tryd.ntmps18
  go_wp2_with (first | ((with_reducible refine gate_callee (f := 21) rfl ?_); refine goesL_ (some 6) rfl rfl Tryd.func21 (by kernel_rfl) rfl #[.string a0] rfl (by (try simp only [List.map_toArray, List.map_cons, List.map_nil]); first | done | rfl | (simp only [List.length_drop, List.length_take]; rfl)) ?_; (with_reducible refine (emendationref11_Of.calls k a0 t231 _ A2.out).mono ?_); rintro e w9 ⟨rfl, hb⟩; refine ⟨_, rfl, ?_⟩; have n0_ := Aside0.mk (below_step (by repeat (first | (with_reducible first | exact HB.out | apply below_alloc | apply pw_below_drewN | apply below_drew1) | exact HB.out)) hb); clear HB; have HB := n0_; clear n0_; (try clear hb); (try clear hb2); (try clear hk); (try clear hi)))
  go_ret2
  exact ⟨by first | rfl | (simp [errW_none, errW_some] <;> rfl) | (simp [*, errW_none, errW_some] <;> rfl), by repeat (first | (with_reducible first | exact HB.out | apply below_alloc | apply pw_below_drewN | apply below_drew1) | exact HB.out)⟩

/-! ### emendationref11_Open: function 19 -/
def emendationref11_Open.f (k : Nat) (a0 : ByteArray) : Option (Int × ByteArray) := (emendationref11_Of.f k a0).bind fun t234 => (if t234 = 4 then ((emendationref02_Run.f k a0 96).bind fun t235 => (if 0 ≤ t235 then (if t235 ≤ (a0.size : Int) then ((emendationref02_Trim.f k (a0.extract (t235 : Int).toNat a0.size)).bind fun t236 => (some (t235, t236))) else (none)) else (none))) else (some (0, (⟨#[]⟩ : ByteArray))))
set_option maxHeartbeats 8000000 in
set_option maxRecDepth 100000 in
theorem emendationref11_Open.calls (k : Nat) (a0 : ByteArray) (r1 : Int) (r2 : ByteArray) (w : World) (h : emendationref11_Open.f k a0 = some (r1, r2)) :
  Calls Tryd.prog 19 #[.string a0] w fun e w' => e = .returned (.tuple #[.int .i64 r1, .string r2]) ∧ Below w.heap.size w w' := by
 have HB := Aside0.mk (Below.refl w.heap.size w)
 have H : ((emendationref11_Of.f k a0).bind fun t234 => (if t234 = 4 then ((emendationref02_Run.f k a0 96).bind fun t235 => (if 0 ≤ t235 then (if t235 ≤ (a0.size : Int) then ((emendationref02_Trim.f k (a0.extract (t235 : Int).toNat a0.size)).bind fun t236 => (some (t235, t236))) else (none)) else (none))) else (some (0, (⟨#[]⟩ : ByteArray))))) = some (r1, r2) := h
 clear h
 replace H := Option.bind_eq_some_iff.mp H
 obtain ⟨t234, A20, H⟩ := H
 replace H : (if t234 = 4 then ((emendationref02_Run.f k a0 96).bind fun t235 => (if 0 ≤ t235 then (if t235 ≤ (a0.size : Int) then ((emendationref02_Trim.f k (a0.extract (t235 : Int).toNat a0.size)).bind fun t236 => (some (t235, t236))) else (none)) else (none))) else (some (0, (⟨#[]⟩ : ByteArray)))) = some (r1, r2) := H
 have A2 := Aside0.mk A20
 clear A20
 by_cases c3 : t234 = 4
 ·
  rw [if_pos c3] at H
  have c3b0 : (t234 == 4) = true := beq_iff_eq.mpr c3
  have c3b1 : (t234 != 4) = false := bne_eq_false_iff_eq.mpr c3
  clear c3
  replace H := Option.bind_eq_some_iff.mp H
  obtain ⟨t235, A40, H⟩ := H
  replace H : (if 0 ≤ t235 then (if t235 ≤ (a0.size : Int) then ((emendationref02_Trim.f k (a0.extract (t235 : Int).toNat a0.size)).bind fun t236 => (some (t235, t236))) else (none)) else (none)) = some (r1, r2) := H
  have A4 := Aside0.mk A40
  clear A40
  by_cases c5 : 0 ≤ t235
  ·
   rw [if_pos c5] at H
   have c5b0 := eq_true c5
   have c5b1 : decide (0 ≤ t235) = true := decide_eq_true c5
   clear c5
   by_cases c6 : t235 ≤ (a0.size : Int)
   ·
    rw [if_pos c6] at H
    have c6b0 := eq_true c6
    have c6b1 : decide (t235 ≤ (a0.size : Int)) = true := decide_eq_true c6
    clear c6
    replace H := Option.bind_eq_some_iff.mp H
    obtain ⟨t236, A70, H⟩ := H
    replace H : (some (t235, t236)) = some (r1, r2) := H
    have A7 := Aside0.mk A70
    clear A70
    simp only [Option.some.injEq, Prod.mk.injEq] at H
    obtain ⟨rfl, rfl⟩ := H
    go_enter Tryd.func19, Tryd.ntmps19
    go_wp2_with (first | ((with_reducible refine gate_callee (f := 21) rfl ?_); refine goesL_ (some 6) rfl rfl Tryd.func21 (by kernel_rfl) rfl #[.string a0] rfl (by (try simp only [List.map_toArray, List.map_cons, List.map_nil]); first | done | rfl | (simp only [List.length_drop, List.length_take]; rfl)) ?_; (with_reducible refine (emendationref11_Of.calls k a0 t234 _ A2.out).mono ?_); rintro e w8 ⟨rfl, hb⟩; refine ⟨_, rfl, ?_⟩; have n0_ := Aside0.mk (below_step (by repeat (first | (with_reducible first | exact HB.out | apply below_alloc | apply pw_below_drewN | apply below_drew1) | exact HB.out)) hb); clear HB; have HB := n0_; clear n0_; (try clear hb); (try clear hb2); (try clear hk); (try clear hi)) | ((with_reducible refine gate_callee (f := 38) rfl ?_); refine goesL_ (some 9) rfl rfl Tryd.func38 (by kernel_rfl) rfl #[.string a0, .int .u8 96] rfl (by (try simp only [List.map_toArray, List.map_cons, List.map_nil]); first | done | rfl | (simp only [List.length_drop, List.length_take]; rfl)) ?_; (with_reducible refine (emendationref02_Run.calls k a0 96 t235 _ A4.out).mono ?_); rintro e w' ⟨rfl, ⟨nd, rfl⟩⟩; refine ⟨_, rfl, ?_⟩) | ((with_reducible refine gate_callee (f := 39) rfl ?_); refine goesL_ (some 14) rfl rfl Tryd.func39 (by kernel_rfl) rfl #[.string (a0.extract (t235 : Int).toNat a0.size)] rfl (by (try simp only [List.map_toArray, List.map_cons, List.map_nil]); first | done | rfl | (simp only [List.length_drop, List.length_take]; rfl)) ?_; (with_reducible refine (emendationref02_Trim.calls k (a0.extract (t235 : Int).toNat a0.size) t236 _ A7.out).mono ?_); rintro e w' ⟨rfl, ⟨nd, rfl⟩⟩; refine ⟨_, rfl, ?_⟩))
    go_ret2
    exact ⟨by first | rfl | (simp [errW_none, errW_some] <;> rfl) | (simp [*, errW_none, errW_some] <;> rfl), by repeat (first | (with_reducible first | exact HB.out | apply below_alloc | apply pw_below_drewN | apply below_drew1) | exact HB.out)⟩
   ·
    rw [if_neg c6] at H
    exact absurd H (by simp)
  ·
   rw [if_neg c5] at H
   exact absurd H (by simp)
 ·
  rw [if_neg c3] at H
  have c3b0 : (t234 == 4) = false := beq_eq_false_iff_ne.mpr c3
  have c3b1 : (t234 != 4) = true := bne_iff_ne.mpr c3
  simp only [Option.some.injEq, Prod.mk.injEq] at H
  obtain ⟨rfl, rfl⟩ := H
  go_enter Tryd.func19, Tryd.ntmps19
  go_wp2_with (first | ((with_reducible refine gate_callee (f := 21) rfl ?_); refine goesL_ (some 6) rfl rfl Tryd.func21 (by kernel_rfl) rfl #[.string a0] rfl (by (try simp only [List.map_toArray, List.map_cons, List.map_nil]); first | done | rfl | (simp only [List.length_drop, List.length_take]; rfl)) ?_; (with_reducible refine (emendationref11_Of.calls k a0 t234 _ A2.out).mono ?_); rintro e w9 ⟨rfl, hb⟩; refine ⟨_, rfl, ?_⟩; have n0_ := Aside0.mk (below_step (by repeat (first | (with_reducible first | exact HB.out | apply below_alloc | apply pw_below_drewN | apply below_drew1) | exact HB.out)) hb); clear HB; have HB := n0_; clear n0_; (try clear hb); (try clear hb2); (try clear hk); (try clear hi)))
  go_ret2
  exact ⟨by first | rfl | (simp [errW_none, errW_some] <;> rfl) | (simp [*, errW_none, errW_some] <;> rfl), by repeat (first | (with_reducible first | exact HB.out | apply below_alloc | apply pw_below_drewN | apply below_drew1) | exact HB.out)⟩

/-! ### emendationref11_Inner: function 20 -/
def emendationref11_Inner.f (k : Nat) (a0 : ByteArray) : Option (ByteArray × Bool) := if (a0.size : Int) > 1 then (if 0 ≤ 2 then (if 2 ≤ (a0.size : Int) then (if (a0.extract 0 2).toList = ([32, 32] : List UInt8) then (some (a0.extract 2 a0.size, true)) else ((emendationref02_Trim.f k a0).bind fun t237 => (some ((⟨#[]⟩ : ByteArray), (t237.toList == ([] : List UInt8)))))) else (none)) else (none)) else ((emendationref02_Trim.f k a0).bind fun t238 => (some ((⟨#[]⟩ : ByteArray), (t238.toList == ([] : List UInt8)))))
set_option maxHeartbeats 8000000 in
set_option maxRecDepth 100000 in
theorem emendationref11_Inner.calls (k : Nat) (a0 : ByteArray) (r1 : ByteArray) (r2 : Bool) (w : World) (h : emendationref11_Inner.f k a0 = some (r1, r2)) :
  Calls Tryd.prog 20 #[.string a0] w fun e w' => e = .returned (.tuple #[.string r1, .bool r2]) ∧ Drawn0 w w' := by
 have H : (if (a0.size : Int) > 1 then (if 0 ≤ 2 then (if 2 ≤ (a0.size : Int) then (if (a0.extract 0 2).toList = ([32, 32] : List UInt8) then (some (a0.extract 2 a0.size, true)) else ((emendationref02_Trim.f k a0).bind fun t237 => (some ((⟨#[]⟩ : ByteArray), (t237.toList == ([] : List UInt8)))))) else (none)) else (none)) else ((emendationref02_Trim.f k a0).bind fun t238 => (some ((⟨#[]⟩ : ByteArray), (t238.toList == ([] : List UInt8)))))) = some (r1, r2) := h
 clear h
 by_cases c2 : (a0.size : Int) > 1
 ·
  rw [if_pos c2] at H
  have c2b0 : decide (1 < (a0.size : Int)) = true := decide_eq_true c2
  have c2b1 : decide (1 < a0.size) = true := decide_eq_true (by omega)
  clear c2
  by_cases c3 : 0 ≤ 2
  ·
   rw [if_pos c3] at H
   have c3b0 := eq_true c3
   have c3b1 : decide (0 ≤ 2) = true := decide_eq_true c3
   clear c3
   by_cases c4 : 2 ≤ (a0.size : Int)
   ·
    rw [if_pos c4] at H
    have c4b0 := eq_true c4
    have c4b1 : decide (2 ≤ (a0.size : Int)) = true := decide_eq_true c4
    clear c4
    by_cases c5 : (a0.extract 0 2).toList = ([32, 32] : List UInt8)
    ·
     rw [if_pos c5] at H
     have c5b0 : ((a0.extract 0 2).toList == ([32, 32] : List UInt8)) = true := beq_iff_eq.mpr c5
     have c5b1 : ((a0.extract 0 2).toList != ([32, 32] : List UInt8)) = false := bne_eq_false_iff_eq.mpr c5
     clear c5
     have c6b0 := eq_true (of_decide_eq_true (by first | (with_reducible assumption) | assumption) : 2 ≤ (a0.size : Int))
     simp only [Option.some.injEq, Prod.mk.injEq] at H
     obtain ⟨rfl, rfl⟩ := H
     go_enter Tryd.func20, Tryd.ntmps20
     go_wp2
     go_ret2
     exact ⟨by first | rfl | (simp; done) | (simp [*]; done) | (simp [bne, beq_nil_E]; done), by repeat (first | exact Drawn0.refl _ | apply Drawn0.step)⟩
    ·
     rw [if_neg c5] at H
     have c5b0 : ((a0.extract 0 2).toList == ([32, 32] : List UInt8)) = false := beq_eq_false_iff_ne.mpr c5
     have c5b1 : ((a0.extract 0 2).toList != ([32, 32] : List UInt8)) = true := bne_iff_ne.mpr c5
     replace H := Option.bind_eq_some_iff.mp H
     obtain ⟨t237, A70, H⟩ := H
     replace H : (some ((⟨#[]⟩ : ByteArray), (t237.toList == ([] : List UInt8)))) = some (r1, r2) := H
     have A7 := Aside0.mk A70
     clear A70
     simp only [Option.some.injEq, Prod.mk.injEq] at H
     obtain ⟨rfl, rfl⟩ := H
     go_enter Tryd.func20, Tryd.ntmps20
     go_wp2_with (first | ((with_reducible refine gate_callee (f := 39) rfl ?_); refine goesL_ (some 15) rfl rfl Tryd.func39 (by kernel_rfl) rfl #[.string a0] rfl (by (try simp only [List.map_toArray, List.map_cons, List.map_nil]); first | done | rfl | (simp only [List.length_drop, List.length_take]; rfl)) ?_; (with_reducible refine (emendationref02_Trim.calls k a0 t237 _ A7.out).mono ?_); rintro e w' ⟨rfl, ⟨nd, rfl⟩⟩; refine ⟨_, rfl, ?_⟩))
     go_ret2
     exact ⟨by first | rfl | (simp; done) | (simp [*]; done) | (simp [bne, beq_nil_E]; done), by repeat (first | exact Drawn0.refl _ | apply Drawn0.step)⟩
   ·
    rw [if_neg c4] at H
    exact absurd H (by simp)
  ·
   rw [if_neg c3] at H
   exact absurd H (by simp)
 ·
  rw [if_neg c2] at H
  have c2b0 : decide (1 < (a0.size : Int)) = false := decide_eq_false c2
  have c2b1 : decide (1 < a0.size) = false := decide_eq_false (by omega)
  clear c2
  replace H := Option.bind_eq_some_iff.mp H
  obtain ⟨t238, A80, H⟩ := H
  replace H : (some ((⟨#[]⟩ : ByteArray), (t238.toList == ([] : List UInt8)))) = some (r1, r2) := H
  have A8 := Aside0.mk A80
  clear A80
  simp only [Option.some.injEq, Prod.mk.injEq] at H
  obtain ⟨rfl, rfl⟩ := H
  go_enter Tryd.func20, Tryd.ntmps20
  go_wp2_with (first | ((with_reducible refine gate_callee (f := 39) rfl ?_); refine goesL_ (some 15) rfl rfl Tryd.func39 (by kernel_rfl) rfl #[.string a0] rfl (by (try simp only [List.map_toArray, List.map_cons, List.map_nil]); first | done | rfl | (simp only [List.length_drop, List.length_take]; rfl)) ?_; (with_reducible refine (emendationref02_Trim.calls k a0 t238 _ A8.out).mono ?_); rintro e w' ⟨rfl, ⟨nd, rfl⟩⟩; refine ⟨_, rfl, ?_⟩))
  go_ret2
  exact ⟨by first | rfl | (simp; done) | (simp [*]; done) | (simp [bne, beq_nil_E]; done), by repeat (first | exact Drawn0.refl _ | apply Drawn0.step)⟩

/-! ### emendationref11_Closes: function 22 -/
def emendationref11_Closes.f (k : Nat) (a0 : ByteArray) (a1 : Int) : Option (Bool) := if (a0.size : Int) > 0 then (if (a0.size : Int) ≥ a1 then ((emendationref02_Run.f k a0 96).bind fun t239 => (some (t239 == (a0.size : Int)))) else (some false)) else (some false)
set_option maxHeartbeats 8000000 in
set_option maxRecDepth 100000 in
theorem emendationref11_Closes.calls (k : Nat) (a0 : ByteArray) (a1 : Int) (r : Bool) (w : World) (h : emendationref11_Closes.f k a0 a1 = some r) :
  Calls Tryd.prog 22 #[.string a0, .int .i64 a1] w fun e w' => e = .returned (.bool r) ∧ Drawn0 w w' := by
 have H : (if (a0.size : Int) > 0 then (if (a0.size : Int) ≥ a1 then ((emendationref02_Run.f k a0 96).bind fun t239 => (some (t239 == (a0.size : Int)))) else (some false)) else (some false)) = some r := h
 clear h
 by_cases c3 : (a0.size : Int) > 0
 ·
  rw [if_pos c3] at H
  have c3b0 : decide (0 < (a0.size : Int)) = true := decide_eq_true c3
  have c3b1 : decide (0 < a0.size) = true := decide_eq_true (by omega)
  clear c3
  by_cases c4 : (a0.size : Int) ≥ a1
  ·
   rw [if_pos c4] at H
   have c4b0 : decide (a1 ≤ (a0.size : Int)) = true := decide_eq_true c4
   clear c4
   replace H := Option.bind_eq_some_iff.mp H
   obtain ⟨t239, A50, H⟩ := H
   replace H : (some (t239 == (a0.size : Int))) = some r := H
   have A5 := Aside0.mk A50
   clear A50
   obtain rfl := Option.some.inj H
   have tkA5 : True := trivial
   go_enter Tryd.func22, Tryd.ntmps22
   go_wp2_with (first | (go_at_call 38; clear tkA5; (with_reducible refine (emendationref02_Run.calls k a0 96 t239 _ A5.out).mono ?_); rintro e w' ⟨rfl, ⟨nd, rfl⟩⟩))
   go_ret
   exact ⟨by first | rfl | (simp; done) | (simp [*]; done) | (simp [bne, beq_nil_E]; done), by repeat (first | exact Drawn0.refl _ | apply Drawn0.step)⟩
  ·
   rw [if_neg c4] at H
   have c4b0 : decide (a1 ≤ (a0.size : Int)) = false := decide_eq_false c4
   clear c4
   obtain rfl := Option.some.inj H
   go_enter Tryd.func22, Tryd.ntmps22
   go_wp2
   go_ret
   exact ⟨by first | rfl | (simp; done) | (simp [*]; done) | (simp [bne, beq_nil_E]; done), by repeat (first | exact Drawn0.refl _ | apply Drawn0.step)⟩
 ·
  rw [if_neg c3] at H
  have c3b0 : decide (0 < (a0.size : Int)) = false := decide_eq_false c3
  have c3b1 : decide (0 < a0.size) = false := decide_eq_false (by omega)
  clear c3
  obtain rfl := Option.some.inj H
  go_enter Tryd.func22, Tryd.ntmps22
  go_wp2
  go_ret
  exact ⟨by first | rfl | (simp; done) | (simp [*]; done) | (simp [bne, beq_nil_E]; done), by repeat (first | exact Drawn0.refl _ | apply Drawn0.step)⟩

end Go.Proofs.YticaofendehebaaDoor.X
