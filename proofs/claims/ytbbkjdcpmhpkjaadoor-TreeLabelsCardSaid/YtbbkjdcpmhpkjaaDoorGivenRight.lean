/- The given contract of span.Right: the printed walk, apart from the others. -/
import Derived.Test.YtbbkjdcpmhpkjaaDoorGivenWords
import Derived.Test.YtbbkjdcpmhpkjaaDoorX2
import Derived.Test.YtbbkjdcpmhpkjaaDoorX2
namespace Go.Proofs.YtbbkjdcpmhpkjaaDoor.G
open Go.RowKit Go.Proofs.YtbbkjdcpmhpkjaaDoor.X Go.Proofs.YtbbkjdcpmhpkjaaDoorW.PrintWords Go.Proofs.YtbbkjdcpmhpkjaaDoorW.PrintLast Go.Proofs.YtbbkjdcpmhpkjaaDoorW.PrintMore
attribute [local go_sem] max2_int min2_int max_two min_two max_three min_three max_four min_four
set_option linter.unusedVariables false
set_option linter.unusedSimpArgs false
/-! ### span_Right: function 40 -/
def span_Right.f (k : Nat) (l0 : List (S33)) : Option (Bool) := (span_within_all.f k false false l0).bind fun t126 => (if t126 = true then (if (l0.length : Int) = 0 then (some true) else (if 0 < (l0.length : Int) then (if 0 ≤ (wrap64 ((l0.length : Int) - 1)) then (if (wrap64 ((l0.length : Int) - 1)) < (l0.length : Int) then (if ((rd_T33 l0 0).f0) = 1 then (if 0 < (((rd_T33 l0 0).f1).size : Int) then ((span_edge.f (bt ((rd_T33 l0 0).f1) 0)).bind fun t131 => (if t131 = true then (some false) else (if ((rd_T33 l0 (wrap64 ((l0.length : Int) - 1))).f0) = 1 then (if 0 ≤ (wrap64 ((((rd_T33 l0 (wrap64 ((l0.length : Int) - 1))).f1).size : Int) - 1)) then (if (wrap64 ((((rd_T33 l0 (wrap64 ((l0.length : Int) - 1))).f1).size : Int) - 1)) < (((rd_T33 l0 (wrap64 ((l0.length : Int) - 1))).f1).size : Int) then ((span_edge.f (bt ((rd_T33 l0 (wrap64 ((l0.length : Int) - 1))).f1) (wrap64 ((((rd_T33 l0 (wrap64 ((l0.length : Int) - 1))).f1).size : Int) - 1)))).bind fun t132 => (some (!t132))) else (none)) else (none)) else (some true)))) else (none)) else (if ((rd_T33 l0 (wrap64 ((l0.length : Int) - 1))).f0) = 1 then (if 0 ≤ (wrap64 ((((rd_T33 l0 (wrap64 ((l0.length : Int) - 1))).f1).size : Int) - 1)) then (if (wrap64 ((((rd_T33 l0 (wrap64 ((l0.length : Int) - 1))).f1).size : Int) - 1)) < (((rd_T33 l0 (wrap64 ((l0.length : Int) - 1))).f1).size : Int) then ((span_edge.f (bt ((rd_T33 l0 (wrap64 ((l0.length : Int) - 1))).f1) (wrap64 ((((rd_T33 l0 (wrap64 ((l0.length : Int) - 1))).f1).size : Int) - 1)))).bind fun t133 => (some (!t133))) else (none)) else (none)) else (some true))) else (none)) else (none)) else (none))) else (some false))
def span_Right.T5 : Bool × List (List Nat × List Nat) := (true, [([], []), ([0], [0]), ([1], [1]), ([], []), ([], []), ([4], [4]), ([5], [5]), ([3, 6], [3, 6]), ([7], [7]), ([], []), ([], []), ([9, 2, 0, 1, 2, 9, 10], [2, 9]), ([10, 8, 11, 0, 1, 2, 3, 4, 5, 6, 7, 8, 9, 10, 11], [8, 10])])
def span_Right.B5 : List Nat := [0, 1, 3, 0, 0, 16, 48, 120, 248, 0, 0, 1543, 4095]
theorem span_Right.tab5 : rtab .any (opsOf Tryd.f40 5) = span_Right.T5 := by kernel_rfl
theorem span_Right.bits5 : waitsOk span_Right.T5.2 span_Right.B5 = true := by kernel_rfl
set_option maxHeartbeats 8000000 in
set_option maxRecDepth 100000 in
theorem span_Right.calls (k : Nat) (A0 : Option Addr) (c0 : Nat) (l0 : List (S33)) (r : Bool) (w : World) (hT : Tabs w) (hr0 : Kd.C k33 w A0 l0.length l0) (hc0 : l0.length ≤ c0) (h : span_Right.f k l0 = some r) :
  Calls Tryd.prog 40 #[.slice A0 l0.length c0] w fun e w' => e = .returned (.bool r) ∧ Below w.heap.size w w' := by
 have hu47 := Tryd.underlying80
 have hu35 := Tryd.underlying33
 have HT := Aside0.mk hT
 clear hT
 have HR0 := Aside0.mk hr0
 have HC0 := Aside0.mk hc0
 clear hr0 hc0
 have HB := Aside0.mk (Below.refl w.heap.size w)
 have H : ((span_within_all.f k false false l0).bind fun t126 => (if t126 = true then (if (l0.length : Int) = 0 then (some true) else (if 0 < (l0.length : Int) then (if 0 ≤ (wrap64 ((l0.length : Int) - 1)) then (if (wrap64 ((l0.length : Int) - 1)) < (l0.length : Int) then (if ((rd_T33 l0 0).f0) = 1 then (if 0 < (((rd_T33 l0 0).f1).size : Int) then ((span_edge.f (bt ((rd_T33 l0 0).f1) 0)).bind fun t131 => (if t131 = true then (some false) else (if ((rd_T33 l0 (wrap64 ((l0.length : Int) - 1))).f0) = 1 then (if 0 ≤ (wrap64 ((((rd_T33 l0 (wrap64 ((l0.length : Int) - 1))).f1).size : Int) - 1)) then (if (wrap64 ((((rd_T33 l0 (wrap64 ((l0.length : Int) - 1))).f1).size : Int) - 1)) < (((rd_T33 l0 (wrap64 ((l0.length : Int) - 1))).f1).size : Int) then ((span_edge.f (bt ((rd_T33 l0 (wrap64 ((l0.length : Int) - 1))).f1) (wrap64 ((((rd_T33 l0 (wrap64 ((l0.length : Int) - 1))).f1).size : Int) - 1)))).bind fun t132 => (some (!t132))) else (none)) else (none)) else (some true)))) else (none)) else (if ((rd_T33 l0 (wrap64 ((l0.length : Int) - 1))).f0) = 1 then (if 0 ≤ (wrap64 ((((rd_T33 l0 (wrap64 ((l0.length : Int) - 1))).f1).size : Int) - 1)) then (if (wrap64 ((((rd_T33 l0 (wrap64 ((l0.length : Int) - 1))).f1).size : Int) - 1)) < (((rd_T33 l0 (wrap64 ((l0.length : Int) - 1))).f1).size : Int) then ((span_edge.f (bt ((rd_T33 l0 (wrap64 ((l0.length : Int) - 1))).f1) (wrap64 ((((rd_T33 l0 (wrap64 ((l0.length : Int) - 1))).f1).size : Int) - 1)))).bind fun t133 => (some (!t133))) else (none)) else (none)) else (some true))) else (none)) else (none)) else (none))) else (some false))) = some r := h
 clear h
 replace H := Option.bind_eq_some_iff.mp H
 obtain ⟨t126, A20, H⟩ := H
 replace H : (if t126 = true then (if (l0.length : Int) = 0 then (some true) else (if 0 < (l0.length : Int) then (if 0 ≤ (wrap64 ((l0.length : Int) - 1)) then (if (wrap64 ((l0.length : Int) - 1)) < (l0.length : Int) then (if ((rd_T33 l0 0).f0) = 1 then (if 0 < (((rd_T33 l0 0).f1).size : Int) then ((span_edge.f (bt ((rd_T33 l0 0).f1) 0)).bind fun t131 => (if t131 = true then (some false) else (if ((rd_T33 l0 (wrap64 ((l0.length : Int) - 1))).f0) = 1 then (if 0 ≤ (wrap64 ((((rd_T33 l0 (wrap64 ((l0.length : Int) - 1))).f1).size : Int) - 1)) then (if (wrap64 ((((rd_T33 l0 (wrap64 ((l0.length : Int) - 1))).f1).size : Int) - 1)) < (((rd_T33 l0 (wrap64 ((l0.length : Int) - 1))).f1).size : Int) then ((span_edge.f (bt ((rd_T33 l0 (wrap64 ((l0.length : Int) - 1))).f1) (wrap64 ((((rd_T33 l0 (wrap64 ((l0.length : Int) - 1))).f1).size : Int) - 1)))).bind fun t132 => (some (!t132))) else (none)) else (none)) else (some true)))) else (none)) else (if ((rd_T33 l0 (wrap64 ((l0.length : Int) - 1))).f0) = 1 then (if 0 ≤ (wrap64 ((((rd_T33 l0 (wrap64 ((l0.length : Int) - 1))).f1).size : Int) - 1)) then (if (wrap64 ((((rd_T33 l0 (wrap64 ((l0.length : Int) - 1))).f1).size : Int) - 1)) < (((rd_T33 l0 (wrap64 ((l0.length : Int) - 1))).f1).size : Int) then ((span_edge.f (bt ((rd_T33 l0 (wrap64 ((l0.length : Int) - 1))).f1) (wrap64 ((((rd_T33 l0 (wrap64 ((l0.length : Int) - 1))).f1).size : Int) - 1)))).bind fun t133 => (some (!t133))) else (none)) else (none)) else (some true))) else (none)) else (none)) else (none))) else (some false)) = some r := H
 have A2 := Aside0.mk A20
 clear A20
 by_cases c3 : t126 = true
 ·
  subst c3
  have H1 : (if (l0.length : Int) = 0 then (some true) else (if 0 < (l0.length : Int) then (if 0 ≤ (wrap64 ((l0.length : Int) - 1)) then (if (wrap64 ((l0.length : Int) - 1)) < (l0.length : Int) then (if ((rd_T33 l0 0).f0) = 1 then (if 0 < (((rd_T33 l0 0).f1).size : Int) then ((span_edge.f (bt ((rd_T33 l0 0).f1) 0)).bind fun t131 => (if t131 = true then (some false) else (if ((rd_T33 l0 (wrap64 ((l0.length : Int) - 1))).f0) = 1 then (if 0 ≤ (wrap64 ((((rd_T33 l0 (wrap64 ((l0.length : Int) - 1))).f1).size : Int) - 1)) then (if (wrap64 ((((rd_T33 l0 (wrap64 ((l0.length : Int) - 1))).f1).size : Int) - 1)) < (((rd_T33 l0 (wrap64 ((l0.length : Int) - 1))).f1).size : Int) then ((span_edge.f (bt ((rd_T33 l0 (wrap64 ((l0.length : Int) - 1))).f1) (wrap64 ((((rd_T33 l0 (wrap64 ((l0.length : Int) - 1))).f1).size : Int) - 1)))).bind fun t132 => (some (!t132))) else (none)) else (none)) else (some true)))) else (none)) else (if ((rd_T33 l0 (wrap64 ((l0.length : Int) - 1))).f0) = 1 then (if 0 ≤ (wrap64 ((((rd_T33 l0 (wrap64 ((l0.length : Int) - 1))).f1).size : Int) - 1)) then (if (wrap64 ((((rd_T33 l0 (wrap64 ((l0.length : Int) - 1))).f1).size : Int) - 1)) < (((rd_T33 l0 (wrap64 ((l0.length : Int) - 1))).f1).size : Int) then ((span_edge.f (bt ((rd_T33 l0 (wrap64 ((l0.length : Int) - 1))).f1) (wrap64 ((((rd_T33 l0 (wrap64 ((l0.length : Int) - 1))).f1).size : Int) - 1)))).bind fun t133 => (some (!t133))) else (none)) else (none)) else (some true))) else (none)) else (none)) else (none))) = some r := by rw [if_pos rfl] at H; exact H
  clear H
  have H := H1
  clear H1
  by_cases c4 : (l0.length : Int) = 0
  ·
   rw [if_pos c4] at H
   have c4b0 : ((l0.length : Int) == 0) = true := beq_iff_eq.mpr c4
   have c4b1 : ((l0.length : Int) != 0) = false := bne_eq_false_iff_eq.mpr c4
   clear c4
   obtain rfl := Option.some.inj H
   go_enter Tryd.func40, Tryd.ntmps40
   go_wp2_with (first | ((with_reducible refine gate_callee (f := 55) rfl ?_); refine goesL_ (some 7) rfl rfl Tryd.func55 (by kernel_rfl) rfl #[.agg #[.bool false, .bool false], .slice A0 l0.length c0] rfl (by (try simp only [List.map_toArray, List.map_cons, List.map_nil]); first | done | rfl | (simp only [List.length_drop, List.length_take]; rfl)) ?_; (with_reducible refine (span_within_all.calls k false false _ _ l0 true _ ?side3 ?side1 ?side2 A2.out).mono ?_); (case side1 => repeat (first | exact HR0.out | (with_reducible refine Kd.C_alloc ?_ _) | (with_reducible refine Kd.C_drewN ?_ _) | (with_reducible refine Kd.C_drew ?_))); (case side2 => exact HC0.out); (case side3 => first | exact HT.out | exact Tabs.at HT.out (by repeat (with_reducible first | exact HB.out | apply below_alloc | apply pw_below_drewN | apply below_drew1))); rintro e w5 ⟨rfl, hb⟩; refine ⟨_, rfl, ?_⟩; have n0_ := Aside0.mk (below_step (by repeat (with_reducible first | exact HB.out | apply below_alloc | apply pw_below_drewN | apply below_drew1)) hb); clear HB; have HB := n0_; clear n0_; (try clear hb); (try clear hb2); (try clear hk); (try clear hi)))
   go_ret
   exact ⟨by first | rfl | (simp [errW_none, errW_some] <;> rfl) | (simp [*, errW_none, errW_some] <;> rfl), by repeat (with_reducible first | exact HB.out | apply below_alloc | apply pw_below_drewN | apply below_drew1)⟩
  ·
   rw [if_neg c4] at H
   have c4b0 : ((l0.length : Int) == 0) = false := beq_eq_false_iff_ne.mpr c4
   have c4b1 : ((l0.length : Int) != 0) = true := bne_iff_ne.mpr c4
   have c4b2 : ¬ (l0 = []) := fun h_ => c4 (by rw [h_]; rfl)
   by_cases c6 : 0 < (l0.length : Int)
   ·
    rw [if_pos c6] at H
    have c6b0 : decide (0 < (l0.length : Int)) = true := decide_eq_true c6
    have c6b1 : decide (0 < l0.length) = true := decide_eq_true (by omega)
    clear c6
    obtain ⟨ji7, hji7⟩ : ∃ j_ : Int, (wrap64 ((l0.length : Int) - 1)) = j_ := ⟨_, rfl⟩
    replace H : (if 0 ≤ (ji7) then (if (ji7) < (l0.length : Int) then (if ((rd_T33 l0 0).f0) = 1 then (if 0 < (((rd_T33 l0 0).f1).size : Int) then ((span_edge.f (bt ((rd_T33 l0 0).f1) 0)).bind fun t131 => (if t131 = true then (some false) else (if ((rd_T33 l0 (ji7)).f0) = 1 then (if 0 ≤ (wrap64 ((((rd_T33 l0 (ji7)).f1).size : Int) - 1)) then (if (wrap64 ((((rd_T33 l0 (ji7)).f1).size : Int) - 1)) < (((rd_T33 l0 (ji7)).f1).size : Int) then ((span_edge.f (bt ((rd_T33 l0 (ji7)).f1) (wrap64 ((((rd_T33 l0 (ji7)).f1).size : Int) - 1)))).bind fun t132 => (some (!t132))) else (none)) else (none)) else (some true)))) else (none)) else (if ((rd_T33 l0 (ji7)).f0) = 1 then (if 0 ≤ (wrap64 ((((rd_T33 l0 (ji7)).f1).size : Int) - 1)) then (if (wrap64 ((((rd_T33 l0 (ji7)).f1).size : Int) - 1)) < (((rd_T33 l0 (ji7)).f1).size : Int) then ((span_edge.f (bt ((rd_T33 l0 (ji7)).f1) (wrap64 ((((rd_T33 l0 (ji7)).f1).size : Int) - 1)))).bind fun t133 => (some (!t133))) else (none)) else (none)) else (some true))) else (none)) else (none)) = some r := by first | (rw [hji7] at H; exact H) | (simp only [hji7] at H ⊢; exact H)
    (try rw [hji7] at A2)
    have hji7w : (IntKind.i64.wrap ((l0.length : Int) - 1)) = ji7 := (i64_w _).trans hji7
    by_cases c8 : 0 ≤ (ji7)
    ·
     rw [if_pos c8] at H
     have c8b0 : decide (0 ≤ (ji7)) = true := decide_eq_true c8
     clear c8
     by_cases c9 : (ji7) < (l0.length : Int)
     ·
      rw [if_pos c9] at H
      have c9b0 : decide ((ji7) < (l0.length : Int)) = true := decide_eq_true c9
      clear c9
      by_cases c10 : ((rd_T33 l0 0).f0) = 1
      ·
       rw [if_pos c10] at H
       have c10b0 : (((rd_T33 l0 0).f0) == 1) = true := beq_iff_eq.mpr c10
       have c10b1 : (((rd_T33 l0 0).f0) != 1) = false := bne_eq_false_iff_eq.mpr c10
       clear c10
       by_cases c11 : 0 < (((rd_T33 l0 0).f1).size : Int)
       ·
        rw [if_pos c11] at H
        have c11b0 : decide (0 < (((rd_T33 l0 0).f1).size : Int)) = true := decide_eq_true c11
        have c11b1 : decide (0 < ((rd_T33 l0 0).f1).size) = true := decide_eq_true (by omega)
        clear c11
        replace H := Option.bind_eq_some_iff.mp H
        obtain ⟨t131, A130, H⟩ := H
        replace H : (if t131 = true then (some false) else (if ((rd_T33 l0 (ji7)).f0) = 1 then (if 0 ≤ (wrap64 ((((rd_T33 l0 (ji7)).f1).size : Int) - 1)) then (if (wrap64 ((((rd_T33 l0 (ji7)).f1).size : Int) - 1)) < (((rd_T33 l0 (ji7)).f1).size : Int) then ((span_edge.f (bt ((rd_T33 l0 (ji7)).f1) (wrap64 ((((rd_T33 l0 (ji7)).f1).size : Int) - 1)))).bind fun t132 => (some (!t132))) else (none)) else (none)) else (some true))) = some r := H
        have A13 := Aside0.mk A130
        clear A130
        by_cases c14 : t131 = true
        ·
         subst c14
         have H1 : (some false) = some r := by rw [if_pos rfl] at H; exact H
         clear H
         have H := H1
         clear H1
         obtain rfl := Option.some.inj H
         go_enter Tryd.func40, Tryd.ntmps40
         try go_wp2_with (first | ((with_reducible refine gate_callee (f := 55) rfl ?_); refine goesL_ (some 7) rfl rfl Tryd.func55 (by kernel_rfl) rfl #[.agg #[.bool false, .bool false], .slice A0 l0.length c0] rfl (by (try simp only [List.map_toArray, List.map_cons, List.map_nil]); first | done | rfl | (simp only [List.length_drop, List.length_take]; rfl)) ?_; (with_reducible refine (span_within_all.calls k false false _ _ l0 true _ ?side3 ?side1 ?side2 A2.out).mono ?_); (case side1 => repeat (first | exact HR0.out | (with_reducible refine Kd.C_alloc ?_ _) | (with_reducible refine Kd.C_drewN ?_ _) | (with_reducible refine Kd.C_drew ?_))); (case side2 => exact HC0.out); (case side3 => first | exact HT.out | exact Tabs.at HT.out (by repeat (with_reducible first | exact HB.out | apply below_alloc | apply pw_below_drewN | apply below_drew1))); rintro e w15 ⟨rfl, hb⟩; refine ⟨_, rfl, ?_⟩; have n0_ := Aside0.mk (below_step (by repeat (with_reducible first | exact HB.out | apply below_alloc | apply pw_below_drewN | apply below_drew1)) hb); clear HB; have HB := n0_; clear n0_; (try clear hb); (try clear hb2); (try clear hk); (try clear hi)))
         have n0_ := Aside0.mk (below_drew1 HB.out)
         clear HB
         have HB := n0_
         clear n0_
         have p127 : 0 ≤ (0 : Int) := (by omega)
         have q127 : 0 < (l0.length : Int) := of_decide_eq_true (by first | (with_reducible assumption) | assumption)
         obtain ⟨ad127, A127_2, c127_2, e127, hx127_0, hx127_1, hx127_2, hl127_2, hi127_2⟩ := at_T33 HR0.out 0 p127 q127
         have hw127_2 := hx127_2
         (try rw [show ((0 : Int)).toNat = 0 from rfl] at hw127_2)
         (try rw [show 0 * 3 = 0 from rfl] at hw127_2)
         (try rw [Addr.add_zero'] at hw127_2)
         have hw127_1 := hx127_1
         (try rw [show ((0 : Int)).toNat = 0 from rfl] at hw127_1)
         (try rw [show 0 * 3 = 0 from rfl] at hw127_1)
         (try rw [Addr.add_zero'] at hw127_1)
         have hw127_0 := hx127_0
         (try rw [show ((0 : Int)).toNat = 0 from rfl] at hw127_0)
         (try rw [show 0 * 3 = 0 from rfl] at hw127_0)
         (try rw [Addr.add_zero'] at hw127_0)
         cases e127
         have qi127 : (0 < l0.length) = True := eq_true (by omega)
         (try rw [show ((0 : Int)).toNat = 0 from rfl] at hx127_0)
         (try rw [show 0 * 3 = 0 from rfl] at hx127_0)
         (try rw [Addr.add_zero'] at hx127_0)
         (try rw [show ((0 : Int)).toNat = 0 from rfl] at hx127_1)
         (try rw [show 0 * 3 = 0 from rfl] at hx127_1)
         (try rw [Addr.add_zero'] at hx127_1)
         (try rw [show ((0 : Int)).toNat = 0 from rfl] at hx127_2)
         (try rw [show 0 * 3 = 0 from rfl] at hx127_2)
         (try rw [Addr.add_zero'] at hx127_2)
         replace hx127_0 := kc_ HB hx127_0
         replace hx127_1 := kc_ HB hx127_1
         replace hx127_2 := kc_ HB hx127_2
         have HR127_2 := Aside0.mk hi127_2
         have HC127_2 := Aside0.mk hl127_2
         clear hi127_2 hl127_2
         replace p127 := eq_true p127
         replace q127 := eq_true q127
         have p128 : 0 ≤ ((ji7) : Int) := of_decide_eq_true (by first | (with_reducible assumption) | assumption)
         have q128 : (ji7) < (l0.length : Int) := of_decide_eq_true (by first | (with_reducible assumption) | assumption)
         obtain ⟨ad128, A128_2, c128_2, e128, hx128_0, hx128_1, hx128_2, hl128_2, hi128_2⟩ := at_T33 HR0.out (ji7) p128 q128
         have hw128_2 := hx128_2
         have hw128_1 := hx128_1
         have hw128_0 := hx128_0
         obtain rfl : ad127 = ad128 := (by injection e128)
         replace hx128_0 := kc_ HB hx128_0
         replace hx128_1 := kc_ HB hx128_1
         replace hx128_2 := kc_ HB hx128_2
         have HR128_2 := Aside0.mk hi128_2
         have HC128_2 := Aside0.mk hl128_2
         clear hi128_2 hl128_2
         replace p128 := eq_true p128
         replace q128 := eq_true q128
         refine start_ (n := 13) (S := fun w' => w'.cell? ad127 = some (.int .i64 ((rd_T33 l0 0).f0)) ∧ w'.cell? ⟨ad127.block, ad127.off + 1, none⟩ = some (.string ((rd_T33 l0 0).f1)) ∧ w'.cell? ⟨ad127.block, ad127.off + 2, none⟩ = some (.slice A127_2 ((rd_T33 l0 0).f2).length c127_2) ∧ w'.cell? (ad127.add (((ji7)).toNat * 3)) = some (.int .i64 ((rd_T33 l0 (ji7)).f0)) ∧ w'.cell? ⟨(ad127.add (((ji7)).toNat * 3)).block, (ad127.add (((ji7)).toNat * 3)).off + 1, none⟩ = some (.string ((rd_T33 l0 (ji7)).f1)) ∧ w'.cell? ⟨(ad127.add (((ji7)).toNat * 3)).block, (ad127.add (((ji7)).toNat * 3)).off + 2, none⟩ = some (.slice A128_2 ((rd_T33 l0 (ji7)).f2).length c128_2)) (ds := []) #[false, false, false, false, false, false, false, false, false, false, false, false, false] (by kernel_rfl) rfl rfl ⟨(kc_ HB hw127_0), (kc_ HB hw127_1), (kc_ HB hw127_2), (kc_ HB hw128_0), (kc_ HB hw128_1), (kc_ HB hw128_2)⟩ (fun hHeld => ?_); refine with_tabW span_Right.tab5 span_Right.bits5 (fun HT_ HW_ => ?_)
         generalize w15.drew = w16 at HB HR127_2 HR128_2 hx127_0 hx127_1 hx127_2 hx128_0 hx128_1 hx128_2 hHeld ⊢
         refine pure_ (i := 0) (N := some 12) (v := ?_) (a' := ?_) #[true, false, false, false, false, false, false, false, false, false, false, false, false] rfl rfl (any_of HT_.out (by kernel_rfl)) (fun _ _ _ h => h) (Or.inl ⟨by rfl, ?_⟩) ?_ ?_
         rotate_left
         ·
          intro w'
          go_simp
          with_reducible rfl
         rotate_left
         ·
          simp only [Act.put, List.setIfInBounds_toArray, List.set_cons_zero, List.set_cons_succ, i64_w, i32_w]
          rfl
         refine pure_ (i := 1) (N := some 13) (v := ?_) (a' := ?_) #[true, true, false, false, false, false, false, false, false, false, false, false, false] rfl rfl (any_of HT_.out (by kernel_rfl)) (fun _ _ _ h => h) (Or.inl ⟨by rfl, ?_⟩) ?_ ?_
         rotate_left
         ·
          intro w'
          go_simp
          with_reducible rfl
         rotate_left
         ·
          simp only [Act.put, List.setIfInBounds_toArray, List.set_cons_zero, List.set_cons_succ, i64_w, i32_w]
          rfl
         refine pure_ (i := 3) (N := some 15) (v := ?_) (a' := ?_) #[true, true, false, true, false, false, false, false, false, false, false, false, false] rfl rfl (any_of HT_.out (by kernel_rfl)) (fun _ _ _ h => h) (Or.inl ⟨by rfl, ?_⟩) ?_ ?_
         rotate_left
         ·
          intro w'
          go_simp
          with_reducible rfl
         rotate_left
         ·
          simp only [Act.put, List.setIfInBounds_toArray, List.set_cons_zero, List.set_cons_succ, i64_w, i32_w]
          rfl
         refine pure_ (i := 4) (N := some 16) (v := ?_) (a' := ?_) #[true, true, false, true, true, false, false, false, false, false, false, false, false] rfl rfl (any_of HT_.out (by kernel_rfl)) (fun _ _ _ h => h) (Or.inl ⟨by rfl, ?_⟩) ?_ ?_
         rotate_left
         ·
          intro w'
          go_simp
          with_reducible rfl
         rotate_left
         ·
          simp only [Act.put, List.setIfInBounds_toArray, List.set_cons_zero, List.set_cons_succ, i64_w, i32_w]
          rfl
         refine pure_ (i := 5) (N := some 17) (v := ?_) (a' := ?_) #[true, true, false, true, true, true, false, false, false, false, false, false, false] rfl rfl (any_of HT_.out (by kernel_rfl)) (fun _ _ _ h => h) (Or.inl ⟨by rfl, ?_⟩) ?_ ?_
         rotate_left
         ·
          intro w'
          go_simp
          with_reducible rfl
         rotate_left
         ·
          simp only [Act.put, List.setIfInBounds_toArray, List.set_cons_zero, List.set_cons_succ, i64_w, i32_w]
          rfl
         refine pure_ (i := 6) (N := some 18) (v := ?_) (a' := ?_) #[true, true, false, true, true, true, true, false, false, false, false, false, false] rfl rfl (any_of HT_.out (by kernel_rfl)) (fun _ _ _ h => h) (Or.inl ⟨by rfl, ?_⟩) ?_ ?_
         rotate_left
         ·
          intro w'
          go_simp
          with_reducible rfl
         rotate_left
         ·
          simp only [Act.put, List.setIfInBounds_toArray, List.set_cons_zero, List.set_cons_succ, i64_w, i32_w]
          rfl
         refine pure_ (i := 7) (N := some 19) (v := ?_) (a' := ?_) #[true, true, false, true, true, true, true, true, false, false, false, false, false] rfl rfl (any_of HT_.out (by kernel_rfl)) (fun _ _ _ h => h) (Or.inl ⟨by rfl, ?_⟩) ?_ ?_
         rotate_left
         ·
          intro w'
          go_simp
          with_reducible rfl
         rotate_left
         ·
          simp only [Act.put, List.setIfInBounds_toArray, List.set_cons_zero, List.set_cons_succ, i64_w, i32_w]
          rfl
         refine take_ (i := 2) (N := some 14) (v := ?_) (a' := ?_) #[true, true, true, true, true, true, true, true, false, false, false, false, false] rfl rfl (take_ofW HT_.out HW_.out (by kernel_rfl)) (fun _ _ _ h => h) (Or.inl ⟨by rfl, ?_⟩) hHeld ?_ ?_
         rotate_left
         ·
          rintro w' ⟨s0, s1, s2, s3, s4, s5⟩
          go_simp
          with_reducible rfl
         rotate_left
         ·
          simp only [Act.put, List.setIfInBounds_toArray, List.set_cons_zero, List.set_cons_succ, i64_w, i32_w]
          rfl
         refine take_ (i := 8) (N := some 20) (v := ?_) (a' := ?_) #[true, true, true, true, true, true, true, true, true, false, false, false, false] rfl rfl (take_ofW HT_.out HW_.out (by kernel_rfl)) (fun _ _ _ h => h) (Or.inl ⟨by rfl, ?_⟩) hHeld ?_ ?_
         rotate_left
         ·
          rintro w' ⟨s0, s1, s2, s3, s4, s5⟩
          go_simp
          with_reducible rfl
         rotate_left
         ·
          simp only [Act.put, List.setIfInBounds_toArray, List.set_cons_zero, List.set_cons_succ, i64_w, i32_w]
          rfl
         refine join_ (σ := Nat × Nat) 2 #[true, true, true, true, true, true, true, true, true, true, true, false, false] (fun s_ => [(3, .pointer (some ⟨s_.1, 0, none⟩)), (4, .pointer (some ⟨s_.2, 0, none⟩))]) (fun s_ w' => (w'.cell? ad127 = some (.int .i64 ((rd_T33 l0 0).f0)) ∧ w'.cell? ⟨ad127.block, ad127.off + 1, none⟩ = some (.string ((rd_T33 l0 0).f1)) ∧ w'.cell? ⟨ad127.block, ad127.off + 2, none⟩ = some (.slice A127_2 ((rd_T33 l0 0).f2).length c127_2) ∧ w'.cell? (ad127.add (((ji7)).toNat * 3)) = some (.int .i64 ((rd_T33 l0 (ji7)).f0)) ∧ w'.cell? ⟨(ad127.add (((ji7)).toNat * 3)).block, (ad127.add (((ji7)).toNat * 3)).off + 1, none⟩ = some (.string ((rd_T33 l0 (ji7)).f1)) ∧ w'.cell? ⟨(ad127.add (((ji7)).toNat * 3)).block, (ad127.add (((ji7)).toNat * 3)).off + 2, none⟩ = some (.slice A128_2 ((rd_T33 l0 (ji7)).f2).length c128_2)) ∧ (w'.heap[s_.1]? = some (.cells #[.int .i64 0, .string (⟨#[]⟩ : ByteArray), .slice none 0 0] 33 (0, 0))) ∧ (w'.heap[s_.2]? = some (.cells #[.int .i64 0, .string (⟨#[]⟩ : ByteArray), .slice none 0 0] 33 (0, 0))) ∧ (w.heap.size ≤ s_.1) ∧ (w.heap.size ≤ s_.1) ∧ (s_.2 ≠ s_.1) ∧ (s_.1 ≠ s_.2) ∧ (w.heap.size ≤ s_.2) ∧ (w.heap.size ≤ s_.2) ∧ (Below w.heap.size w w')) ?_ ?_
         rotate_left
         ·
          intro hCont
          refine two_ (i := 9) (j := 10) (Ni := some 3) (Nj := some 4) #[true, true, true, true, true, true, true, true, true, true, false, false, false] #[true, true, true, true, true, true, true, true, true, false, true, false, false] rfl rfl rfl rfl (two_of HT_.out (by kernel_rfl)) (by decide) (by decide) (fun K hK => ?_) (fun K hK => ?_)
          ·
           skip
           refine box_step ?hg (N := 3) ?hd (cs := #[.int .i64 0, .string (⟨#[]⟩ : ByteArray), .slice none 0 0]) (t := 33) ?hr ?_; (case hd => rfl); (case hg => rfl); (case hr => first | (go_simp; done) | (go_simp; rfl))
           intro gb129 hg w17 hbox hb
           have n0_ := Aside0.mk (below_step (by repeat (with_reducible first | exact HB.out | apply below_alloc | apply pw_below_drewN | apply below_drew1)) hb)
           have n1_ := Aside0.mk (hbox)
           have n2_ := Aside0.mk ((by rw [hg]; exact (below_size (by repeat (with_reducible first | exact HB.out | apply below_alloc | apply pw_below_drewN | apply below_drew1))) : w.heap.size ≤ gb129))
           have n3_ := Aside0.mk ((by rw [hg]; exact (below_size (by repeat (with_reducible first | exact HB.out | apply below_alloc | apply pw_below_drewN | apply below_drew1))) : w.heap.size ≤ gb129))
           clear HB
           have HB := n0_
           have BK129 := n1_
           have GW129 := n2_
           have GE129 := n3_
           clear n0_ n1_ n2_ n3_
           clear hb hbox hg
           refine hK.out _ _ ⟨(kc_ HB hw127_0), (kc_ HB hw127_1), (kc_ HB hw127_2), (kc_ HB hw128_0), (kc_ HB hw128_1), (kc_ HB hw128_2)⟩ (fun hHeld => ?_)
           clear hK K
           refine norm_ (a' := ?_) ?_ ?_
           rotate_left
           ·
            show Act.put _ (some 3) _ = _
            simp only [Act.put, List.setIfInBounds_toArray, List.set_cons_zero, List.set_cons_succ, i64_w, i32_w]
            rfl
           refine one_ (i := 10) (N := some 4) #[true, true, true, true, true, true, true, true, true, true, true, false, false] rfl rfl (one_of HT_.out (by kernel_rfl)) (by decide) (fun K hK => ?_)
           refine box_step ?hg (N := 4) ?hd (cs := #[.int .i64 0, .string (⟨#[]⟩ : ByteArray), .slice none 0 0]) (t := 33) ?hr ?_; (case hd => rfl); (case hg => rfl); (case hr => first | (go_simp; done) | (go_simp; rfl))
           intro gb130 hg w18 hbox hb
           have n0_ := Aside0.mk (blk_below (g := gb129) (o := .cells #[.int .i64 0, .string (⟨#[]⟩ : ByteArray), .slice none 0 0] 33 (0, 0)) (by (with_reducible repeat (first | refine blk_drewN ?_ _ | refine blk_drew ?_ | refine blk_alloc ?_ _)); exact BK129.out) hb)
           have n1_ := Aside0.mk (below_step (by repeat (first | (with_reducible first | exact HB.out | apply below_alloc | apply pw_below_drewN | apply below_drew1 | refine below_set ?_ GE129.out) | exact HB.out)) hb)
           have n2_ := Aside0.mk (hbox)
           have n3_ := Aside0.mk ((by rw [hg]; exact (below_size (by repeat (first | (with_reducible first | exact HB.out | apply below_alloc | apply pw_below_drewN | apply below_drew1 | refine below_set ?_ GE129.out) | exact HB.out))) : w.heap.size ≤ gb130))
           have n4_ := Aside0.mk ((by rw [hg]; exact (below_size (by repeat (first | (with_reducible first | exact HB.out | apply below_alloc | apply pw_below_drewN | apply below_drew1 | refine below_set ?_ GE129.out) | exact HB.out))) : w.heap.size ≤ gb130))
           have n5_ := Aside0.mk ((by rw [hg]; exact Nat.ne_of_lt (blk_lt (g := gb129) (o := .cells #[.int .i64 0, .string (⟨#[]⟩ : ByteArray), .slice none 0 0] 33 (0, 0)) (by (with_reducible repeat (first | refine blk_drewN ?_ _ | refine blk_drew ?_ | refine blk_alloc ?_ _)); exact BK129.out)) : gb129 ≠ gb130))
           have n6_ := Aside0.mk ((by rw [hg]; exact Nat.ne_of_gt (blk_lt (g := gb129) (o := .cells #[.int .i64 0, .string (⟨#[]⟩ : ByteArray), .slice none 0 0] 33 (0, 0)) (by (with_reducible repeat (first | refine blk_drewN ?_ _ | refine blk_drew ?_ | refine blk_alloc ?_ _)); exact BK129.out)) : gb130 ≠ gb129))
           clear BK129
           clear HB
           have BK129 := n0_
           have HB := n1_
           have BK130 := n2_
           have GW130 := n3_
           have GE130 := n4_
           have NB129_130 := n5_
           have NB130_129 := n6_
           clear n0_ n1_ n2_ n3_ n4_ n5_ n6_
           clear hb hbox hg
           refine hK.out _ _ ⟨(kc_ HB hw127_0), (kc_ HB hw127_1), (kc_ HB hw127_2), (kc_ HB hw128_0), (kc_ HB hw128_1), (kc_ HB hw128_2)⟩ (fun hHeld => ?_)
           clear hK K
           refine norm_ (a' := ?_) ?_ ?_
           rotate_left
           ·
            show Act.put _ (some 4) _ = _
            simp only [Act.put, List.setIfInBounds_toArray, List.set_cons_zero, List.set_cons_succ, i64_w, i32_w]
            rfl
           exact norm_ (by simp only [putAll, Act.put, List.setIfInBounds_toArray, List.set_cons_zero, List.set_cons_succ]) (hCont (gb129, gb130) _ ⟨hHeld, (by (with_reducible repeat (first | refine blk_drewN ?_ _ | refine blk_drew ?_ | refine blk_alloc ?_ _)); exact BK129.out), (by (with_reducible repeat (first | refine blk_drewN ?_ _ | refine blk_drew ?_ | refine blk_alloc ?_ _)); exact BK130.out), GW129.out, GE129.out, NB130_129.out, NB129_130.out, GW130.out, GE130.out, (by repeat (first | (with_reducible first | exact HB.out | apply below_alloc | apply pw_below_drewN | apply below_drew1 | refine below_set ?_ GE129.out | refine below_set ?_ GE130.out) | exact HB.out))⟩)
          ·
           skip
           refine box_step ?hg (N := 4) ?hd (cs := #[.int .i64 0, .string (⟨#[]⟩ : ByteArray), .slice none 0 0]) (t := 33) ?hr ?_; (case hd => rfl); (case hg => rfl); (case hr => first | (go_simp; done) | (go_simp; rfl))
           intro gb130 hg w17 hbox hb
           have n0_ := Aside0.mk (below_step (by repeat (with_reducible first | exact HB.out | apply below_alloc | apply pw_below_drewN | apply below_drew1)) hb)
           have n1_ := Aside0.mk (hbox)
           have n2_ := Aside0.mk ((by rw [hg]; exact (below_size (by repeat (with_reducible first | exact HB.out | apply below_alloc | apply pw_below_drewN | apply below_drew1))) : w.heap.size ≤ gb130))
           have n3_ := Aside0.mk ((by rw [hg]; exact (below_size (by repeat (with_reducible first | exact HB.out | apply below_alloc | apply pw_below_drewN | apply below_drew1))) : w.heap.size ≤ gb130))
           clear HB
           have HB := n0_
           have BK130 := n1_
           have GW130 := n2_
           have GE130 := n3_
           clear n0_ n1_ n2_ n3_
           clear hb hbox hg
           refine hK.out _ _ ⟨(kc_ HB hw127_0), (kc_ HB hw127_1), (kc_ HB hw127_2), (kc_ HB hw128_0), (kc_ HB hw128_1), (kc_ HB hw128_2)⟩ (fun hHeld => ?_)
           clear hK K
           refine norm_ (a' := ?_) ?_ ?_
           rotate_left
           ·
            show Act.put _ (some 4) _ = _
            simp only [Act.put, List.setIfInBounds_toArray, List.set_cons_zero, List.set_cons_succ, i64_w, i32_w]
            rfl
           refine one_ (i := 9) (N := some 3) #[true, true, true, true, true, true, true, true, true, true, true, false, false] rfl rfl (one_of HT_.out (by kernel_rfl)) (by decide) (fun K hK => ?_)
           refine box_step ?hg (N := 3) ?hd (cs := #[.int .i64 0, .string (⟨#[]⟩ : ByteArray), .slice none 0 0]) (t := 33) ?hr ?_; (case hd => rfl); (case hg => rfl); (case hr => first | (go_simp; done) | (go_simp; rfl))
           intro gb129 hg w18 hbox hb
           have n0_ := Aside0.mk (blk_below (g := gb130) (o := .cells #[.int .i64 0, .string (⟨#[]⟩ : ByteArray), .slice none 0 0] 33 (0, 0)) (by (with_reducible repeat (first | refine blk_drewN ?_ _ | refine blk_drew ?_ | refine blk_alloc ?_ _)); exact BK130.out) hb)
           have n1_ := Aside0.mk (below_step (by repeat (first | (with_reducible first | exact HB.out | apply below_alloc | apply pw_below_drewN | apply below_drew1 | refine below_set ?_ GE130.out) | exact HB.out)) hb)
           have n2_ := Aside0.mk (hbox)
           have n3_ := Aside0.mk ((by rw [hg]; exact (below_size (by repeat (first | (with_reducible first | exact HB.out | apply below_alloc | apply pw_below_drewN | apply below_drew1 | refine below_set ?_ GE130.out) | exact HB.out))) : w.heap.size ≤ gb129))
           have n4_ := Aside0.mk ((by rw [hg]; exact (below_size (by repeat (first | (with_reducible first | exact HB.out | apply below_alloc | apply pw_below_drewN | apply below_drew1 | refine below_set ?_ GE130.out) | exact HB.out))) : w.heap.size ≤ gb129))
           have n5_ := Aside0.mk ((by rw [hg]; exact Nat.ne_of_lt (blk_lt (g := gb130) (o := .cells #[.int .i64 0, .string (⟨#[]⟩ : ByteArray), .slice none 0 0] 33 (0, 0)) (by (with_reducible repeat (first | refine blk_drewN ?_ _ | refine blk_drew ?_ | refine blk_alloc ?_ _)); exact BK130.out)) : gb130 ≠ gb129))
           have n6_ := Aside0.mk ((by rw [hg]; exact Nat.ne_of_gt (blk_lt (g := gb130) (o := .cells #[.int .i64 0, .string (⟨#[]⟩ : ByteArray), .slice none 0 0] 33 (0, 0)) (by (with_reducible repeat (first | refine blk_drewN ?_ _ | refine blk_drew ?_ | refine blk_alloc ?_ _)); exact BK130.out)) : gb129 ≠ gb130))
           clear BK130
           clear HB
           have BK130 := n0_
           have HB := n1_
           have BK129 := n2_
           have GW129 := n3_
           have GE129 := n4_
           have NB130_129 := n5_
           have NB129_130 := n6_
           clear n0_ n1_ n2_ n3_ n4_ n5_ n6_
           clear hb hbox hg
           refine hK.out _ _ ⟨(kc_ HB hw127_0), (kc_ HB hw127_1), (kc_ HB hw127_2), (kc_ HB hw128_0), (kc_ HB hw128_1), (kc_ HB hw128_2)⟩ (fun hHeld => ?_)
           clear hK K
           refine norm_ (a' := ?_) ?_ ?_
           rotate_left
           ·
            show Act.put _ (some 3) _ = _
            simp only [Act.put, List.setIfInBounds_toArray, List.set_cons_zero, List.set_cons_succ, i64_w, i32_w]
            rfl
           exact norm_ (by simp only [putAll, Act.put, List.setIfInBounds_toArray, List.set_cons_zero, List.set_cons_succ]) (hCont (gb129, gb130) _ ⟨hHeld, (by (with_reducible repeat (first | refine blk_drewN ?_ _ | refine blk_drew ?_ | refine blk_alloc ?_ _)); exact BK129.out), (by (with_reducible repeat (first | refine blk_drewN ?_ _ | refine blk_drew ?_ | refine blk_alloc ?_ _)); exact BK130.out), GW129.out, GE129.out, NB130_129.out, NB129_130.out, GW130.out, GE130.out, (by repeat (first | (with_reducible first | exact HB.out | apply below_alloc | apply pw_below_drewN | apply below_drew1 | refine below_set ?_ GE130.out | refine below_set ?_ GE129.out) | exact HB.out))⟩)
         rintro ⟨gb129, gb130⟩ w19 ⟨hS_, h0_, h1_, h2_, h3_, h4_, h5_, h6_, h7_, h8_⟩
         have n0_ : Aside0 (w19.heap[gb129]? = some (.cells #[.int .i64 0, .string (⟨#[]⟩ : ByteArray), .slice none 0 0] 33 (0, 0))) := ⟨h0_⟩
         have n1_ : Aside0 (w19.heap[gb130]? = some (.cells #[.int .i64 0, .string (⟨#[]⟩ : ByteArray), .slice none 0 0] 33 (0, 0))) := ⟨h1_⟩
         have n2_ : Aside0 (w.heap.size ≤ gb129) := ⟨h2_⟩
         have n3_ : Aside0 (w.heap.size ≤ gb129) := ⟨h3_⟩
         have n4_ : Aside0 (gb130 ≠ gb129) := ⟨h4_⟩
         have n5_ : Aside0 (gb129 ≠ gb130) := ⟨h5_⟩
         have n6_ : Aside0 (w.heap.size ≤ gb130) := ⟨h6_⟩
         have n7_ : Aside0 (w.heap.size ≤ gb130) := ⟨h7_⟩
         have n8_ : Aside0 (Below w.heap.size w w19) := ⟨h8_⟩
         clear HB
         clear h0_ h1_ h2_ h3_ h4_ h5_ h6_ h7_ h8_
         have BK129 := n0_
         have BK130 := n1_
         have GW129 := n2_
         have GE129 := n3_
         have NB130_129 := n4_
         have NB129_130 := n5_
         have GW130 := n6_
         have GE130 := n7_
         have HB := n8_
         clear n0_ n1_ n2_ n3_ n4_ n5_ n6_ n7_ n8_
         have hHeld : w19.cell? ad127 = some (.int .i64 ((rd_T33 l0 0).f0)) ∧ w19.cell? ⟨ad127.block, ad127.off + 1, none⟩ = some (.string ((rd_T33 l0 0).f1)) ∧ w19.cell? ⟨ad127.block, ad127.off + 2, none⟩ = some (.slice A127_2 ((rd_T33 l0 0).f2).length c127_2) ∧ w19.cell? (ad127.add (((ji7)).toNat * 3)) = some (.int .i64 ((rd_T33 l0 (ji7)).f0)) ∧ w19.cell? ⟨(ad127.add (((ji7)).toNat * 3)).block, (ad127.add (((ji7)).toNat * 3)).off + 1, none⟩ = some (.string ((rd_T33 l0 (ji7)).f1)) ∧ w19.cell? ⟨(ad127.add (((ji7)).toNat * 3)).block, (ad127.add (((ji7)).toNat * 3)).off + 2, none⟩ = some (.slice A128_2 ((rd_T33 l0 (ji7)).f2).length c128_2) := hS_
         refine norm_ (a' := ?_) ?_ ?_
         rotate_left
         ·
          simp only [putAll, Act.put, List.setIfInBounds_toArray, List.set_cons_zero, List.set_cons_succ]
          rfl
         refine one_ (i := 11) (N := none) #[true, true, true, true, true, true, true, true, true, true, true, true, false] rfl rfl (one_of HT_.out (by kernel_rfl)) (by decide) (fun K hK => ?_)
         have hs20 : w19.cell? ⟨gb129, 0, none⟩ = some (.int .i64 0) := (blk_cell BK129.out 0).trans rfl
         have hfs20 := blk_frozen BK129.out 0
         have hns20_1 := NB130_129.out
         have hms20_1 := NB129_130.out
         have hs21 : w19.cell? ⟨gb129, 1, none⟩ = some (.string (⟨#[]⟩ : ByteArray)) := (blk_cell BK129.out 1).trans rfl
         have hfs21 := blk_frozen BK129.out 1
         have hns21_1 := NB130_129.out
         have hms21_1 := NB129_130.out
         have hs22 : w19.cell? ⟨gb129, 2, none⟩ = some (.slice none 0 0) := (blk_cell BK129.out 2).trans rfl
         have hfs22 := blk_frozen BK129.out 2
         have hns22_1 := NB130_129.out
         have hms22_1 := NB129_130.out
         refine skip_ (w1 := ?_) (by rfl) rfl ?_ ?_
         rotate_left
         ·
          go_simp
          rfl
         refine hK.out _ _ ⟨((cf_ hw127_0 GW129).trans (((cf_ hw127_0 GW129).trans (((cf_ hw127_0 GW129).trans (hHeld.1)))))), ((cf_ hw127_1 GW129).trans (((cf_ hw127_1 GW129).trans (((cf_ hw127_1 GW129).trans (hHeld.2.1)))))), ((cf_ hw127_2 GW129).trans (((cf_ hw127_2 GW129).trans (((cf_ hw127_2 GW129).trans (hHeld.2.2.1)))))), ((cf_ hw128_0 GW129).trans (((cf_ hw128_0 GW129).trans (((cf_ hw128_0 GW129).trans (hHeld.2.2.2.1)))))), ((cf_ hw128_1 GW129).trans (((cf_ hw128_1 GW129).trans (((cf_ hw128_1 GW129).trans (hHeld.2.2.2.2.1)))))), ((cf_ hw128_2 GW129).trans (((cf_ hw128_2 GW129).trans (((cf_ hw128_2 GW129).trans (hHeld.2.2.2.2.2))))))⟩ (fun hHeld => ?_)
         clear hK K
         refine one_ (i := 12) (N := none) #[true, true, true, true, true, true, true, true, true, true, true, true, true] rfl rfl (one_of HT_.out (by kernel_rfl)) (by decide) (fun K hK => ?_)
         have hs23 : w19.cell? ⟨gb130, 0, none⟩ = some (.int .i64 0) := (blk_cell BK130.out 0).trans rfl
         have hfs23 := blk_frozen BK130.out 0
         have hns23_0 := NB129_130.out
         have hms23_0 := NB130_129.out
         have hs24 : w19.cell? ⟨gb130, 1, none⟩ = some (.string (⟨#[]⟩ : ByteArray)) := (blk_cell BK130.out 1).trans rfl
         have hfs24 := blk_frozen BK130.out 1
         have hns24_0 := NB129_130.out
         have hms24_0 := NB130_129.out
         have hs25 : w19.cell? ⟨gb130, 2, none⟩ = some (.slice none 0 0) := (blk_cell BK130.out 2).trans rfl
         have hfs25 := blk_frozen BK130.out 2
         have hns25_0 := NB129_130.out
         have hms25_0 := NB130_129.out
         refine skip_ (w1 := ?_) (by rfl) rfl ?_ ?_
         rotate_left
         ·
          go_simp
          rfl
         refine hK.out _ _ ⟨((cf_ hw127_0 GW130).trans (((cf_ hw127_0 GW130).trans (((cf_ hw127_0 GW130).trans (hHeld.1)))))), ((cf_ hw127_1 GW130).trans (((cf_ hw127_1 GW130).trans (((cf_ hw127_1 GW130).trans (hHeld.2.1)))))), ((cf_ hw127_2 GW130).trans (((cf_ hw127_2 GW130).trans (((cf_ hw127_2 GW130).trans (hHeld.2.2.1)))))), ((cf_ hw128_0 GW130).trans (((cf_ hw128_0 GW130).trans (((cf_ hw128_0 GW130).trans (hHeld.2.2.2.1)))))), ((cf_ hw128_1 GW130).trans (((cf_ hw128_1 GW130).trans (((cf_ hw128_1 GW130).trans (hHeld.2.2.2.2.1)))))), ((cf_ hw128_2 GW130).trans (((cf_ hw128_2 GW130).trans (((cf_ hw128_2 GW130).trans (hHeld.2.2.2.2.2))))))⟩ (fun hHeld => ?_)
         clear hK K
         refine done_ (done_of HT_.out (by kernel_rfl)) ?_
         have hnb26 := NB129_130.out
         have hnc26 := NB130_129.out
         have hcz27_0 : w19.cell? ⟨gb129, 0, none⟩ = some (.int .i64 0) := (blk_cell BK129.out 0).trans rfl
         have hcz27_1 : w19.cell? ⟨gb129, 1, none⟩ = some (.string (⟨#[]⟩ : ByteArray)) := (blk_cell BK129.out 1).trans rfl
         have hcz27_2 : w19.cell? ⟨gb129, 2, none⟩ = some (.slice none 0 0) := (blk_cell BK129.out 2).trans rfl
         have hfz27_0 := blk_frozen BK129.out 0
         have hfz27_1 := blk_frozen BK129.out 1
         have hfz27_2 := blk_frozen BK129.out 2
         have p12 : 0 ≤ (0 : Int) := (by omega)
         have q12 : 0 < ((rd_T33 l0 0).f1).size := (by have : (0 : Int) < (((rd_T33 l0 0).f1).size : Int) := of_decide_eq_true (by first | (with_reducible assumption) | assumption); omega)
         have hx12 : ∀ h : 0 < ((rd_T33 l0 0).f1).size, ((((rd_T33 l0 0).f1)[0]'h).toNat : Int) = bt ((rd_T33 l0 0).f1) 0 := bt_at ((rd_T33 l0 0).f1) 0
         clear p12
         have qi12 : (0 < (((rd_T33 l0 0).f1).size : Int)) = True := eq_true (of_decide_eq_true (by first | (with_reducible assumption) | assumption))
         replace q12 := eq_true q12
         have tkA13 : True := trivial
         try go_wp2_with (first | (go_at_call 56; clear tkA13; (with_reducible refine (span_edge.calls (bt ((rd_T33 l0 0).f1) 0) true _ A13.out).mono ?_); rintro e w' ⟨rfl, ⟨nd, rfl⟩⟩))
         go_ret
         exact ⟨by first | rfl | (simp [errW_none, errW_some] <;> rfl) | (simp only [← hji7]; first | rfl | (simp [errW_none, errW_some] <;> rfl)) | (simp [*, errW_none, errW_some] <;> rfl), by repeat (first | (with_reducible first | exact HB.out | apply below_alloc | apply pw_below_drewN | apply below_drew1 | refine below_set ?_ GE129.out | refine below_set ?_ GE130.out) | exact HB.out)⟩
        ·
         replace c14 := Bool.eq_false_iff.mpr c14
         subst c14
         have H1 : (if ((rd_T33 l0 (ji7)).f0) = 1 then (if 0 ≤ (wrap64 ((((rd_T33 l0 (ji7)).f1).size : Int) - 1)) then (if (wrap64 ((((rd_T33 l0 (ji7)).f1).size : Int) - 1)) < (((rd_T33 l0 (ji7)).f1).size : Int) then ((span_edge.f (bt ((rd_T33 l0 (ji7)).f1) (wrap64 ((((rd_T33 l0 (ji7)).f1).size : Int) - 1)))).bind fun t132 => (some (!t132))) else (none)) else (none)) else (some true)) = some r := by rw [if_neg (show ¬ (false = true) by decide)] at H; exact H
         clear H
         have H := H1
         clear H1
         by_cases c28 : ((rd_T33 l0 (ji7)).f0) = 1
         ·
          rw [if_pos c28] at H
          have c28b0 : (((rd_T33 l0 (ji7)).f0) == 1) = true := beq_iff_eq.mpr c28
          have c28b1 : (((rd_T33 l0 (ji7)).f0) != 1) = false := bne_eq_false_iff_eq.mpr c28
          clear c28
          obtain ⟨ji29, hji29⟩ : ∃ j_ : Int, (wrap64 ((((rd_T33 l0 (ji7)).f1).size : Int) - 1)) = j_ := ⟨_, rfl⟩
          replace H : (if 0 ≤ (ji29) then (if (ji29) < (((rd_T33 l0 (ji7)).f1).size : Int) then ((span_edge.f (bt ((rd_T33 l0 (ji7)).f1) (ji29))).bind fun t132 => (some (!t132))) else (none)) else (none)) = some r := by first | (rw [hji29] at H; exact H) | (simp only [hji29] at H ⊢; exact H)
          (try rw [hji29] at A2)
          (try rw [hji29] at A13)
          have hji29w : (IntKind.i64.wrap ((((rd_T33 l0 (ji7)).f1).size : Int) - 1)) = ji29 := (i64_w _).trans hji29
          by_cases c30 : 0 ≤ (ji29)
          ·
           rw [if_pos c30] at H
           have c30b0 : decide (0 ≤ (ji29)) = true := decide_eq_true c30
           clear c30
           by_cases c31 : (ji29) < (((rd_T33 l0 (ji7)).f1).size : Int)
           ·
            rw [if_pos c31] at H
            have c31b0 : decide ((ji29) < (((rd_T33 l0 (ji7)).f1).size : Int)) = true := decide_eq_true c31
            clear c31
            replace H := Option.bind_eq_some_iff.mp H
            obtain ⟨t132, A330, H⟩ := H
            replace H : (some (!t132)) = some r := H
            have A33 := Aside0.mk A330
            clear A330
            obtain rfl := Option.some.inj H
            go_enter Tryd.func40, Tryd.ntmps40
            try go_wp2_with (first | ((with_reducible refine gate_callee (f := 55) rfl ?_); refine goesL_ (some 7) rfl rfl Tryd.func55 (by kernel_rfl) rfl #[.agg #[.bool false, .bool false], .slice A0 l0.length c0] rfl (by (try simp only [List.map_toArray, List.map_cons, List.map_nil]); first | done | rfl | (simp only [List.length_drop, List.length_take]; rfl)) ?_; (with_reducible refine (span_within_all.calls k false false _ _ l0 true _ ?side3 ?side1 ?side2 A2.out).mono ?_); (case side1 => repeat (first | exact HR0.out | (with_reducible refine Kd.C_alloc ?_ _) | (with_reducible refine Kd.C_drewN ?_ _) | (with_reducible refine Kd.C_drew ?_))); (case side2 => exact HC0.out); (case side3 => first | exact HT.out | exact Tabs.at HT.out (by repeat (with_reducible first | exact HB.out | apply below_alloc | apply pw_below_drewN | apply below_drew1))); rintro e w34 ⟨rfl, hb⟩; refine ⟨_, rfl, ?_⟩; have n0_ := Aside0.mk (below_step (by repeat (with_reducible first | exact HB.out | apply below_alloc | apply pw_below_drewN | apply below_drew1)) hb); clear HB; have HB := n0_; clear n0_; (try clear hb); (try clear hb2); (try clear hk); (try clear hi)))
            have n0_ := Aside0.mk (below_drew1 HB.out)
            clear HB
            have HB := n0_
            clear n0_
            have p127 : 0 ≤ (0 : Int) := (by omega)
            have q127 : 0 < (l0.length : Int) := of_decide_eq_true (by first | (with_reducible assumption) | assumption)
            obtain ⟨ad127, A127_2, c127_2, e127, hx127_0, hx127_1, hx127_2, hl127_2, hi127_2⟩ := at_T33 HR0.out 0 p127 q127
            have hw127_2 := hx127_2
            (try rw [show ((0 : Int)).toNat = 0 from rfl] at hw127_2)
            (try rw [show 0 * 3 = 0 from rfl] at hw127_2)
            (try rw [Addr.add_zero'] at hw127_2)
            have hw127_1 := hx127_1
            (try rw [show ((0 : Int)).toNat = 0 from rfl] at hw127_1)
            (try rw [show 0 * 3 = 0 from rfl] at hw127_1)
            (try rw [Addr.add_zero'] at hw127_1)
            have hw127_0 := hx127_0
            (try rw [show ((0 : Int)).toNat = 0 from rfl] at hw127_0)
            (try rw [show 0 * 3 = 0 from rfl] at hw127_0)
            (try rw [Addr.add_zero'] at hw127_0)
            cases e127
            have qi127 : (0 < l0.length) = True := eq_true (by omega)
            (try rw [show ((0 : Int)).toNat = 0 from rfl] at hx127_0)
            (try rw [show 0 * 3 = 0 from rfl] at hx127_0)
            (try rw [Addr.add_zero'] at hx127_0)
            (try rw [show ((0 : Int)).toNat = 0 from rfl] at hx127_1)
            (try rw [show 0 * 3 = 0 from rfl] at hx127_1)
            (try rw [Addr.add_zero'] at hx127_1)
            (try rw [show ((0 : Int)).toNat = 0 from rfl] at hx127_2)
            (try rw [show 0 * 3 = 0 from rfl] at hx127_2)
            (try rw [Addr.add_zero'] at hx127_2)
            replace hx127_0 := kc_ HB hx127_0
            replace hx127_1 := kc_ HB hx127_1
            replace hx127_2 := kc_ HB hx127_2
            have HR127_2 := Aside0.mk hi127_2
            have HC127_2 := Aside0.mk hl127_2
            clear hi127_2 hl127_2
            replace p127 := eq_true p127
            replace q127 := eq_true q127
            have p128 : 0 ≤ ((ji7) : Int) := of_decide_eq_true (by first | (with_reducible assumption) | assumption)
            have q128 : (ji7) < (l0.length : Int) := of_decide_eq_true (by first | (with_reducible assumption) | assumption)
            obtain ⟨ad128, A128_2, c128_2, e128, hx128_0, hx128_1, hx128_2, hl128_2, hi128_2⟩ := at_T33 HR0.out (ji7) p128 q128
            have hw128_2 := hx128_2
            have hw128_1 := hx128_1
            have hw128_0 := hx128_0
            obtain rfl : ad127 = ad128 := (by injection e128)
            replace hx128_0 := kc_ HB hx128_0
            replace hx128_1 := kc_ HB hx128_1
            replace hx128_2 := kc_ HB hx128_2
            have HR128_2 := Aside0.mk hi128_2
            have HC128_2 := Aside0.mk hl128_2
            clear hi128_2 hl128_2
            replace p128 := eq_true p128
            replace q128 := eq_true q128
            refine start_ (n := 13) (S := fun w' => w'.cell? ad127 = some (.int .i64 ((rd_T33 l0 0).f0)) ∧ w'.cell? ⟨ad127.block, ad127.off + 1, none⟩ = some (.string ((rd_T33 l0 0).f1)) ∧ w'.cell? ⟨ad127.block, ad127.off + 2, none⟩ = some (.slice A127_2 ((rd_T33 l0 0).f2).length c127_2) ∧ w'.cell? (ad127.add (((ji7)).toNat * 3)) = some (.int .i64 ((rd_T33 l0 (ji7)).f0)) ∧ w'.cell? ⟨(ad127.add (((ji7)).toNat * 3)).block, (ad127.add (((ji7)).toNat * 3)).off + 1, none⟩ = some (.string ((rd_T33 l0 (ji7)).f1)) ∧ w'.cell? ⟨(ad127.add (((ji7)).toNat * 3)).block, (ad127.add (((ji7)).toNat * 3)).off + 2, none⟩ = some (.slice A128_2 ((rd_T33 l0 (ji7)).f2).length c128_2)) (ds := []) #[false, false, false, false, false, false, false, false, false, false, false, false, false] (by kernel_rfl) rfl rfl ⟨(kc_ HB hw127_0), (kc_ HB hw127_1), (kc_ HB hw127_2), (kc_ HB hw128_0), (kc_ HB hw128_1), (kc_ HB hw128_2)⟩ (fun hHeld => ?_); refine with_tabW span_Right.tab5 span_Right.bits5 (fun HT_ HW_ => ?_)
            generalize w34.drew = w35 at HB HR127_2 HR128_2 hx127_0 hx127_1 hx127_2 hx128_0 hx128_1 hx128_2 hHeld ⊢
            refine pure_ (i := 0) (N := some 12) (v := ?_) (a' := ?_) #[true, false, false, false, false, false, false, false, false, false, false, false, false] rfl rfl (any_of HT_.out (by kernel_rfl)) (fun _ _ _ h => h) (Or.inl ⟨by rfl, ?_⟩) ?_ ?_
            rotate_left
            ·
             intro w'
             go_simp
             with_reducible rfl
            rotate_left
            ·
             simp only [Act.put, List.setIfInBounds_toArray, List.set_cons_zero, List.set_cons_succ, i64_w, i32_w]
             rfl
            refine pure_ (i := 1) (N := some 13) (v := ?_) (a' := ?_) #[true, true, false, false, false, false, false, false, false, false, false, false, false] rfl rfl (any_of HT_.out (by kernel_rfl)) (fun _ _ _ h => h) (Or.inl ⟨by rfl, ?_⟩) ?_ ?_
            rotate_left
            ·
             intro w'
             go_simp
             with_reducible rfl
            rotate_left
            ·
             simp only [Act.put, List.setIfInBounds_toArray, List.set_cons_zero, List.set_cons_succ, i64_w, i32_w]
             rfl
            refine pure_ (i := 3) (N := some 15) (v := ?_) (a' := ?_) #[true, true, false, true, false, false, false, false, false, false, false, false, false] rfl rfl (any_of HT_.out (by kernel_rfl)) (fun _ _ _ h => h) (Or.inl ⟨by rfl, ?_⟩) ?_ ?_
            rotate_left
            ·
             intro w'
             go_simp
             with_reducible rfl
            rotate_left
            ·
             simp only [Act.put, List.setIfInBounds_toArray, List.set_cons_zero, List.set_cons_succ, i64_w, i32_w]
             rfl
            refine pure_ (i := 4) (N := some 16) (v := ?_) (a' := ?_) #[true, true, false, true, true, false, false, false, false, false, false, false, false] rfl rfl (any_of HT_.out (by kernel_rfl)) (fun _ _ _ h => h) (Or.inl ⟨by rfl, ?_⟩) ?_ ?_
            rotate_left
            ·
             intro w'
             go_simp
             with_reducible rfl
            rotate_left
            ·
             simp only [Act.put, List.setIfInBounds_toArray, List.set_cons_zero, List.set_cons_succ, i64_w, i32_w]
             rfl
            refine pure_ (i := 5) (N := some 17) (v := ?_) (a' := ?_) #[true, true, false, true, true, true, false, false, false, false, false, false, false] rfl rfl (any_of HT_.out (by kernel_rfl)) (fun _ _ _ h => h) (Or.inl ⟨by rfl, ?_⟩) ?_ ?_
            rotate_left
            ·
             intro w'
             go_simp
             with_reducible rfl
            rotate_left
            ·
             simp only [Act.put, List.setIfInBounds_toArray, List.set_cons_zero, List.set_cons_succ, i64_w, i32_w]
             rfl
            refine pure_ (i := 6) (N := some 18) (v := ?_) (a' := ?_) #[true, true, false, true, true, true, true, false, false, false, false, false, false] rfl rfl (any_of HT_.out (by kernel_rfl)) (fun _ _ _ h => h) (Or.inl ⟨by rfl, ?_⟩) ?_ ?_
            rotate_left
            ·
             intro w'
             go_simp
             with_reducible rfl
            rotate_left
            ·
             simp only [Act.put, List.setIfInBounds_toArray, List.set_cons_zero, List.set_cons_succ, i64_w, i32_w]
             rfl
            refine pure_ (i := 7) (N := some 19) (v := ?_) (a' := ?_) #[true, true, false, true, true, true, true, true, false, false, false, false, false] rfl rfl (any_of HT_.out (by kernel_rfl)) (fun _ _ _ h => h) (Or.inl ⟨by rfl, ?_⟩) ?_ ?_
            rotate_left
            ·
             intro w'
             go_simp
             with_reducible rfl
            rotate_left
            ·
             simp only [Act.put, List.setIfInBounds_toArray, List.set_cons_zero, List.set_cons_succ, i64_w, i32_w]
             rfl
            refine take_ (i := 2) (N := some 14) (v := ?_) (a' := ?_) #[true, true, true, true, true, true, true, true, false, false, false, false, false] rfl rfl (take_ofW HT_.out HW_.out (by kernel_rfl)) (fun _ _ _ h => h) (Or.inl ⟨by rfl, ?_⟩) hHeld ?_ ?_
            rotate_left
            ·
             rintro w' ⟨s0, s1, s2, s3, s4, s5⟩
             go_simp
             with_reducible rfl
            rotate_left
            ·
             simp only [Act.put, List.setIfInBounds_toArray, List.set_cons_zero, List.set_cons_succ, i64_w, i32_w]
             rfl
            refine take_ (i := 8) (N := some 20) (v := ?_) (a' := ?_) #[true, true, true, true, true, true, true, true, true, false, false, false, false] rfl rfl (take_ofW HT_.out HW_.out (by kernel_rfl)) (fun _ _ _ h => h) (Or.inl ⟨by rfl, ?_⟩) hHeld ?_ ?_
            rotate_left
            ·
             rintro w' ⟨s0, s1, s2, s3, s4, s5⟩
             go_simp
             with_reducible rfl
            rotate_left
            ·
             simp only [Act.put, List.setIfInBounds_toArray, List.set_cons_zero, List.set_cons_succ, i64_w, i32_w]
             rfl
            refine join_ (σ := Nat × Nat) 2 #[true, true, true, true, true, true, true, true, true, true, true, false, false] (fun s_ => [(3, .pointer (some ⟨s_.1, 0, none⟩)), (4, .pointer (some ⟨s_.2, 0, none⟩))]) (fun s_ w' => (w'.cell? ad127 = some (.int .i64 ((rd_T33 l0 0).f0)) ∧ w'.cell? ⟨ad127.block, ad127.off + 1, none⟩ = some (.string ((rd_T33 l0 0).f1)) ∧ w'.cell? ⟨ad127.block, ad127.off + 2, none⟩ = some (.slice A127_2 ((rd_T33 l0 0).f2).length c127_2) ∧ w'.cell? (ad127.add (((ji7)).toNat * 3)) = some (.int .i64 ((rd_T33 l0 (ji7)).f0)) ∧ w'.cell? ⟨(ad127.add (((ji7)).toNat * 3)).block, (ad127.add (((ji7)).toNat * 3)).off + 1, none⟩ = some (.string ((rd_T33 l0 (ji7)).f1)) ∧ w'.cell? ⟨(ad127.add (((ji7)).toNat * 3)).block, (ad127.add (((ji7)).toNat * 3)).off + 2, none⟩ = some (.slice A128_2 ((rd_T33 l0 (ji7)).f2).length c128_2)) ∧ (w'.heap[s_.1]? = some (.cells #[.int .i64 0, .string (⟨#[]⟩ : ByteArray), .slice none 0 0] 33 (0, 0))) ∧ (w'.heap[s_.2]? = some (.cells #[.int .i64 0, .string (⟨#[]⟩ : ByteArray), .slice none 0 0] 33 (0, 0))) ∧ (w.heap.size ≤ s_.1) ∧ (w.heap.size ≤ s_.1) ∧ (s_.2 ≠ s_.1) ∧ (s_.1 ≠ s_.2) ∧ (w.heap.size ≤ s_.2) ∧ (w.heap.size ≤ s_.2) ∧ (Below w.heap.size w w')) ?_ ?_
            rotate_left
            ·
             intro hCont
             refine two_ (i := 9) (j := 10) (Ni := some 3) (Nj := some 4) #[true, true, true, true, true, true, true, true, true, true, false, false, false] #[true, true, true, true, true, true, true, true, true, false, true, false, false] rfl rfl rfl rfl (two_of HT_.out (by kernel_rfl)) (by decide) (by decide) (fun K hK => ?_) (fun K hK => ?_)
             ·
              skip
              refine box_step ?hg (N := 3) ?hd (cs := #[.int .i64 0, .string (⟨#[]⟩ : ByteArray), .slice none 0 0]) (t := 33) ?hr ?_; (case hd => rfl); (case hg => rfl); (case hr => first | (go_simp; done) | (go_simp; rfl))
              intro gb129 hg w36 hbox hb
              have n0_ := Aside0.mk (below_step (by repeat (with_reducible first | exact HB.out | apply below_alloc | apply pw_below_drewN | apply below_drew1)) hb)
              have n1_ := Aside0.mk (hbox)
              have n2_ := Aside0.mk ((by rw [hg]; exact (below_size (by repeat (with_reducible first | exact HB.out | apply below_alloc | apply pw_below_drewN | apply below_drew1))) : w.heap.size ≤ gb129))
              have n3_ := Aside0.mk ((by rw [hg]; exact (below_size (by repeat (with_reducible first | exact HB.out | apply below_alloc | apply pw_below_drewN | apply below_drew1))) : w.heap.size ≤ gb129))
              clear HB
              have HB := n0_
              have BK129 := n1_
              have GW129 := n2_
              have GE129 := n3_
              clear n0_ n1_ n2_ n3_
              clear hb hbox hg
              refine hK.out _ _ ⟨(kc_ HB hw127_0), (kc_ HB hw127_1), (kc_ HB hw127_2), (kc_ HB hw128_0), (kc_ HB hw128_1), (kc_ HB hw128_2)⟩ (fun hHeld => ?_)
              clear hK K
              refine norm_ (a' := ?_) ?_ ?_
              rotate_left
              ·
               show Act.put _ (some 3) _ = _
               simp only [Act.put, List.setIfInBounds_toArray, List.set_cons_zero, List.set_cons_succ, i64_w, i32_w]
               rfl
              refine one_ (i := 10) (N := some 4) #[true, true, true, true, true, true, true, true, true, true, true, false, false] rfl rfl (one_of HT_.out (by kernel_rfl)) (by decide) (fun K hK => ?_)
              refine box_step ?hg (N := 4) ?hd (cs := #[.int .i64 0, .string (⟨#[]⟩ : ByteArray), .slice none 0 0]) (t := 33) ?hr ?_; (case hd => rfl); (case hg => rfl); (case hr => first | (go_simp; done) | (go_simp; rfl))
              intro gb130 hg w37 hbox hb
              have n0_ := Aside0.mk (blk_below (g := gb129) (o := .cells #[.int .i64 0, .string (⟨#[]⟩ : ByteArray), .slice none 0 0] 33 (0, 0)) (by (with_reducible repeat (first | refine blk_drewN ?_ _ | refine blk_drew ?_ | refine blk_alloc ?_ _)); exact BK129.out) hb)
              have n1_ := Aside0.mk (below_step (by repeat (first | (with_reducible first | exact HB.out | apply below_alloc | apply pw_below_drewN | apply below_drew1 | refine below_set ?_ GE129.out) | exact HB.out)) hb)
              have n2_ := Aside0.mk (hbox)
              have n3_ := Aside0.mk ((by rw [hg]; exact (below_size (by repeat (first | (with_reducible first | exact HB.out | apply below_alloc | apply pw_below_drewN | apply below_drew1 | refine below_set ?_ GE129.out) | exact HB.out))) : w.heap.size ≤ gb130))
              have n4_ := Aside0.mk ((by rw [hg]; exact (below_size (by repeat (first | (with_reducible first | exact HB.out | apply below_alloc | apply pw_below_drewN | apply below_drew1 | refine below_set ?_ GE129.out) | exact HB.out))) : w.heap.size ≤ gb130))
              have n5_ := Aside0.mk ((by rw [hg]; exact Nat.ne_of_lt (blk_lt (g := gb129) (o := .cells #[.int .i64 0, .string (⟨#[]⟩ : ByteArray), .slice none 0 0] 33 (0, 0)) (by (with_reducible repeat (first | refine blk_drewN ?_ _ | refine blk_drew ?_ | refine blk_alloc ?_ _)); exact BK129.out)) : gb129 ≠ gb130))
              have n6_ := Aside0.mk ((by rw [hg]; exact Nat.ne_of_gt (blk_lt (g := gb129) (o := .cells #[.int .i64 0, .string (⟨#[]⟩ : ByteArray), .slice none 0 0] 33 (0, 0)) (by (with_reducible repeat (first | refine blk_drewN ?_ _ | refine blk_drew ?_ | refine blk_alloc ?_ _)); exact BK129.out)) : gb130 ≠ gb129))
              clear BK129
              clear HB
              have BK129 := n0_
              have HB := n1_
              have BK130 := n2_
              have GW130 := n3_
              have GE130 := n4_
              have NB129_130 := n5_
              have NB130_129 := n6_
              clear n0_ n1_ n2_ n3_ n4_ n5_ n6_
              clear hb hbox hg
              refine hK.out _ _ ⟨(kc_ HB hw127_0), (kc_ HB hw127_1), (kc_ HB hw127_2), (kc_ HB hw128_0), (kc_ HB hw128_1), (kc_ HB hw128_2)⟩ (fun hHeld => ?_)
              clear hK K
              refine norm_ (a' := ?_) ?_ ?_
              rotate_left
              ·
               show Act.put _ (some 4) _ = _
               simp only [Act.put, List.setIfInBounds_toArray, List.set_cons_zero, List.set_cons_succ, i64_w, i32_w]
               rfl
              exact norm_ (by simp only [putAll, Act.put, List.setIfInBounds_toArray, List.set_cons_zero, List.set_cons_succ]) (hCont (gb129, gb130) _ ⟨hHeld, (by (with_reducible repeat (first | refine blk_drewN ?_ _ | refine blk_drew ?_ | refine blk_alloc ?_ _)); exact BK129.out), (by (with_reducible repeat (first | refine blk_drewN ?_ _ | refine blk_drew ?_ | refine blk_alloc ?_ _)); exact BK130.out), GW129.out, GE129.out, NB130_129.out, NB129_130.out, GW130.out, GE130.out, (by repeat (first | (with_reducible first | exact HB.out | apply below_alloc | apply pw_below_drewN | apply below_drew1 | refine below_set ?_ GE129.out | refine below_set ?_ GE130.out) | exact HB.out))⟩)
             ·
              skip
              refine box_step ?hg (N := 4) ?hd (cs := #[.int .i64 0, .string (⟨#[]⟩ : ByteArray), .slice none 0 0]) (t := 33) ?hr ?_; (case hd => rfl); (case hg => rfl); (case hr => first | (go_simp; done) | (go_simp; rfl))
              intro gb130 hg w36 hbox hb
              have n0_ := Aside0.mk (below_step (by repeat (with_reducible first | exact HB.out | apply below_alloc | apply pw_below_drewN | apply below_drew1)) hb)
              have n1_ := Aside0.mk (hbox)
              have n2_ := Aside0.mk ((by rw [hg]; exact (below_size (by repeat (with_reducible first | exact HB.out | apply below_alloc | apply pw_below_drewN | apply below_drew1))) : w.heap.size ≤ gb130))
              have n3_ := Aside0.mk ((by rw [hg]; exact (below_size (by repeat (with_reducible first | exact HB.out | apply below_alloc | apply pw_below_drewN | apply below_drew1))) : w.heap.size ≤ gb130))
              clear HB
              have HB := n0_
              have BK130 := n1_
              have GW130 := n2_
              have GE130 := n3_
              clear n0_ n1_ n2_ n3_
              clear hb hbox hg
              refine hK.out _ _ ⟨(kc_ HB hw127_0), (kc_ HB hw127_1), (kc_ HB hw127_2), (kc_ HB hw128_0), (kc_ HB hw128_1), (kc_ HB hw128_2)⟩ (fun hHeld => ?_)
              clear hK K
              refine norm_ (a' := ?_) ?_ ?_
              rotate_left
              ·
               show Act.put _ (some 4) _ = _
               simp only [Act.put, List.setIfInBounds_toArray, List.set_cons_zero, List.set_cons_succ, i64_w, i32_w]
               rfl
              refine one_ (i := 9) (N := some 3) #[true, true, true, true, true, true, true, true, true, true, true, false, false] rfl rfl (one_of HT_.out (by kernel_rfl)) (by decide) (fun K hK => ?_)
              refine box_step ?hg (N := 3) ?hd (cs := #[.int .i64 0, .string (⟨#[]⟩ : ByteArray), .slice none 0 0]) (t := 33) ?hr ?_; (case hd => rfl); (case hg => rfl); (case hr => first | (go_simp; done) | (go_simp; rfl))
              intro gb129 hg w37 hbox hb
              have n0_ := Aside0.mk (blk_below (g := gb130) (o := .cells #[.int .i64 0, .string (⟨#[]⟩ : ByteArray), .slice none 0 0] 33 (0, 0)) (by (with_reducible repeat (first | refine blk_drewN ?_ _ | refine blk_drew ?_ | refine blk_alloc ?_ _)); exact BK130.out) hb)
              have n1_ := Aside0.mk (below_step (by repeat (first | (with_reducible first | exact HB.out | apply below_alloc | apply pw_below_drewN | apply below_drew1 | refine below_set ?_ GE130.out) | exact HB.out)) hb)
              have n2_ := Aside0.mk (hbox)
              have n3_ := Aside0.mk ((by rw [hg]; exact (below_size (by repeat (first | (with_reducible first | exact HB.out | apply below_alloc | apply pw_below_drewN | apply below_drew1 | refine below_set ?_ GE130.out) | exact HB.out))) : w.heap.size ≤ gb129))
              have n4_ := Aside0.mk ((by rw [hg]; exact (below_size (by repeat (first | (with_reducible first | exact HB.out | apply below_alloc | apply pw_below_drewN | apply below_drew1 | refine below_set ?_ GE130.out) | exact HB.out))) : w.heap.size ≤ gb129))
              have n5_ := Aside0.mk ((by rw [hg]; exact Nat.ne_of_lt (blk_lt (g := gb130) (o := .cells #[.int .i64 0, .string (⟨#[]⟩ : ByteArray), .slice none 0 0] 33 (0, 0)) (by (with_reducible repeat (first | refine blk_drewN ?_ _ | refine blk_drew ?_ | refine blk_alloc ?_ _)); exact BK130.out)) : gb130 ≠ gb129))
              have n6_ := Aside0.mk ((by rw [hg]; exact Nat.ne_of_gt (blk_lt (g := gb130) (o := .cells #[.int .i64 0, .string (⟨#[]⟩ : ByteArray), .slice none 0 0] 33 (0, 0)) (by (with_reducible repeat (first | refine blk_drewN ?_ _ | refine blk_drew ?_ | refine blk_alloc ?_ _)); exact BK130.out)) : gb129 ≠ gb130))
              clear BK130
              clear HB
              have BK130 := n0_
              have HB := n1_
              have BK129 := n2_
              have GW129 := n3_
              have GE129 := n4_
              have NB130_129 := n5_
              have NB129_130 := n6_
              clear n0_ n1_ n2_ n3_ n4_ n5_ n6_
              clear hb hbox hg
              refine hK.out _ _ ⟨(kc_ HB hw127_0), (kc_ HB hw127_1), (kc_ HB hw127_2), (kc_ HB hw128_0), (kc_ HB hw128_1), (kc_ HB hw128_2)⟩ (fun hHeld => ?_)
              clear hK K
              refine norm_ (a' := ?_) ?_ ?_
              rotate_left
              ·
               show Act.put _ (some 3) _ = _
               simp only [Act.put, List.setIfInBounds_toArray, List.set_cons_zero, List.set_cons_succ, i64_w, i32_w]
               rfl
              exact norm_ (by simp only [putAll, Act.put, List.setIfInBounds_toArray, List.set_cons_zero, List.set_cons_succ]) (hCont (gb129, gb130) _ ⟨hHeld, (by (with_reducible repeat (first | refine blk_drewN ?_ _ | refine blk_drew ?_ | refine blk_alloc ?_ _)); exact BK129.out), (by (with_reducible repeat (first | refine blk_drewN ?_ _ | refine blk_drew ?_ | refine blk_alloc ?_ _)); exact BK130.out), GW129.out, GE129.out, NB130_129.out, NB129_130.out, GW130.out, GE130.out, (by repeat (first | (with_reducible first | exact HB.out | apply below_alloc | apply pw_below_drewN | apply below_drew1 | refine below_set ?_ GE130.out | refine below_set ?_ GE129.out) | exact HB.out))⟩)
            rintro ⟨gb129, gb130⟩ w38 ⟨hS_, h0_, h1_, h2_, h3_, h4_, h5_, h6_, h7_, h8_⟩
            have n0_ : Aside0 (w38.heap[gb129]? = some (.cells #[.int .i64 0, .string (⟨#[]⟩ : ByteArray), .slice none 0 0] 33 (0, 0))) := ⟨h0_⟩
            have n1_ : Aside0 (w38.heap[gb130]? = some (.cells #[.int .i64 0, .string (⟨#[]⟩ : ByteArray), .slice none 0 0] 33 (0, 0))) := ⟨h1_⟩
            have n2_ : Aside0 (w.heap.size ≤ gb129) := ⟨h2_⟩
            have n3_ : Aside0 (w.heap.size ≤ gb129) := ⟨h3_⟩
            have n4_ : Aside0 (gb130 ≠ gb129) := ⟨h4_⟩
            have n5_ : Aside0 (gb129 ≠ gb130) := ⟨h5_⟩
            have n6_ : Aside0 (w.heap.size ≤ gb130) := ⟨h6_⟩
            have n7_ : Aside0 (w.heap.size ≤ gb130) := ⟨h7_⟩
            have n8_ : Aside0 (Below w.heap.size w w38) := ⟨h8_⟩
            clear HB
            clear h0_ h1_ h2_ h3_ h4_ h5_ h6_ h7_ h8_
            have BK129 := n0_
            have BK130 := n1_
            have GW129 := n2_
            have GE129 := n3_
            have NB130_129 := n4_
            have NB129_130 := n5_
            have GW130 := n6_
            have GE130 := n7_
            have HB := n8_
            clear n0_ n1_ n2_ n3_ n4_ n5_ n6_ n7_ n8_
            have hHeld : w38.cell? ad127 = some (.int .i64 ((rd_T33 l0 0).f0)) ∧ w38.cell? ⟨ad127.block, ad127.off + 1, none⟩ = some (.string ((rd_T33 l0 0).f1)) ∧ w38.cell? ⟨ad127.block, ad127.off + 2, none⟩ = some (.slice A127_2 ((rd_T33 l0 0).f2).length c127_2) ∧ w38.cell? (ad127.add (((ji7)).toNat * 3)) = some (.int .i64 ((rd_T33 l0 (ji7)).f0)) ∧ w38.cell? ⟨(ad127.add (((ji7)).toNat * 3)).block, (ad127.add (((ji7)).toNat * 3)).off + 1, none⟩ = some (.string ((rd_T33 l0 (ji7)).f1)) ∧ w38.cell? ⟨(ad127.add (((ji7)).toNat * 3)).block, (ad127.add (((ji7)).toNat * 3)).off + 2, none⟩ = some (.slice A128_2 ((rd_T33 l0 (ji7)).f2).length c128_2) := hS_
            refine norm_ (a' := ?_) ?_ ?_
            rotate_left
            ·
             simp only [putAll, Act.put, List.setIfInBounds_toArray, List.set_cons_zero, List.set_cons_succ]
             rfl
            refine one_ (i := 11) (N := none) #[true, true, true, true, true, true, true, true, true, true, true, true, false] rfl rfl (one_of HT_.out (by kernel_rfl)) (by decide) (fun K hK => ?_)
            have hs39 : w38.cell? ⟨gb129, 0, none⟩ = some (.int .i64 0) := (blk_cell BK129.out 0).trans rfl
            have hfs39 := blk_frozen BK129.out 0
            have hns39_1 := NB130_129.out
            have hms39_1 := NB129_130.out
            have hs40 : w38.cell? ⟨gb129, 1, none⟩ = some (.string (⟨#[]⟩ : ByteArray)) := (blk_cell BK129.out 1).trans rfl
            have hfs40 := blk_frozen BK129.out 1
            have hns40_1 := NB130_129.out
            have hms40_1 := NB129_130.out
            have hs41 : w38.cell? ⟨gb129, 2, none⟩ = some (.slice none 0 0) := (blk_cell BK129.out 2).trans rfl
            have hfs41 := blk_frozen BK129.out 2
            have hns41_1 := NB130_129.out
            have hms41_1 := NB129_130.out
            refine skip_ (w1 := ?_) (by rfl) rfl ?_ ?_
            rotate_left
            ·
             go_simp
             rfl
            refine hK.out _ _ ⟨((cf_ hw127_0 GW129).trans (((cf_ hw127_0 GW129).trans (((cf_ hw127_0 GW129).trans (hHeld.1)))))), ((cf_ hw127_1 GW129).trans (((cf_ hw127_1 GW129).trans (((cf_ hw127_1 GW129).trans (hHeld.2.1)))))), ((cf_ hw127_2 GW129).trans (((cf_ hw127_2 GW129).trans (((cf_ hw127_2 GW129).trans (hHeld.2.2.1)))))), ((cf_ hw128_0 GW129).trans (((cf_ hw128_0 GW129).trans (((cf_ hw128_0 GW129).trans (hHeld.2.2.2.1)))))), ((cf_ hw128_1 GW129).trans (((cf_ hw128_1 GW129).trans (((cf_ hw128_1 GW129).trans (hHeld.2.2.2.2.1)))))), ((cf_ hw128_2 GW129).trans (((cf_ hw128_2 GW129).trans (((cf_ hw128_2 GW129).trans (hHeld.2.2.2.2.2))))))⟩ (fun hHeld => ?_)
            clear hK K
            refine one_ (i := 12) (N := none) #[true, true, true, true, true, true, true, true, true, true, true, true, true] rfl rfl (one_of HT_.out (by kernel_rfl)) (by decide) (fun K hK => ?_)
            have hs42 : w38.cell? ⟨gb130, 0, none⟩ = some (.int .i64 0) := (blk_cell BK130.out 0).trans rfl
            have hfs42 := blk_frozen BK130.out 0
            have hns42_0 := NB129_130.out
            have hms42_0 := NB130_129.out
            have hs43 : w38.cell? ⟨gb130, 1, none⟩ = some (.string (⟨#[]⟩ : ByteArray)) := (blk_cell BK130.out 1).trans rfl
            have hfs43 := blk_frozen BK130.out 1
            have hns43_0 := NB129_130.out
            have hms43_0 := NB130_129.out
            have hs44 : w38.cell? ⟨gb130, 2, none⟩ = some (.slice none 0 0) := (blk_cell BK130.out 2).trans rfl
            have hfs44 := blk_frozen BK130.out 2
            have hns44_0 := NB129_130.out
            have hms44_0 := NB130_129.out
            refine skip_ (w1 := ?_) (by rfl) rfl ?_ ?_
            rotate_left
            ·
             go_simp
             rfl
            refine hK.out _ _ ⟨((cf_ hw127_0 GW130).trans (((cf_ hw127_0 GW130).trans (((cf_ hw127_0 GW130).trans (hHeld.1)))))), ((cf_ hw127_1 GW130).trans (((cf_ hw127_1 GW130).trans (((cf_ hw127_1 GW130).trans (hHeld.2.1)))))), ((cf_ hw127_2 GW130).trans (((cf_ hw127_2 GW130).trans (((cf_ hw127_2 GW130).trans (hHeld.2.2.1)))))), ((cf_ hw128_0 GW130).trans (((cf_ hw128_0 GW130).trans (((cf_ hw128_0 GW130).trans (hHeld.2.2.2.1)))))), ((cf_ hw128_1 GW130).trans (((cf_ hw128_1 GW130).trans (((cf_ hw128_1 GW130).trans (hHeld.2.2.2.2.1)))))), ((cf_ hw128_2 GW130).trans (((cf_ hw128_2 GW130).trans (((cf_ hw128_2 GW130).trans (hHeld.2.2.2.2.2))))))⟩ (fun hHeld => ?_)
            clear hK K
            refine done_ (done_of HT_.out (by kernel_rfl)) ?_
            have hnb45 := NB129_130.out
            have hnc45 := NB130_129.out
            have hcz46_0 : w38.cell? ⟨gb129, 0, none⟩ = some (.int .i64 0) := (blk_cell BK129.out 0).trans rfl
            have hcz46_1 : w38.cell? ⟨gb129, 1, none⟩ = some (.string (⟨#[]⟩ : ByteArray)) := (blk_cell BK129.out 1).trans rfl
            have hcz46_2 : w38.cell? ⟨gb129, 2, none⟩ = some (.slice none 0 0) := (blk_cell BK129.out 2).trans rfl
            have hfz46_0 := blk_frozen BK129.out 0
            have hfz46_1 := blk_frozen BK129.out 1
            have hfz46_2 := blk_frozen BK129.out 2
            have p12 : 0 ≤ (0 : Int) := (by omega)
            have q12 : 0 < ((rd_T33 l0 0).f1).size := (by have : (0 : Int) < (((rd_T33 l0 0).f1).size : Int) := of_decide_eq_true (by first | (with_reducible assumption) | assumption); omega)
            have hx12 : ∀ h : 0 < ((rd_T33 l0 0).f1).size, ((((rd_T33 l0 0).f1)[0]'h).toNat : Int) = bt ((rd_T33 l0 0).f1) 0 := bt_at ((rd_T33 l0 0).f1) 0
            clear p12
            have qi12 : (0 < (((rd_T33 l0 0).f1).size : Int)) = True := eq_true (of_decide_eq_true (by first | (with_reducible assumption) | assumption))
            replace q12 := eq_true q12
            have tkA13 : True := trivial
            try go_wp2_with (first | (go_at_call 56; clear tkA13; (with_reducible refine (span_edge.calls (bt ((rd_T33 l0 0).f1) 0) false _ A13.out).mono ?_); rintro e w' ⟨rfl, ⟨nd, rfl⟩⟩; have hcz47_0 : w38.cell? ⟨gb130, 0, none⟩ = some (.int .i64 0) := (blk_cell BK130.out 0).trans rfl; have hcz47_1 : w38.cell? ⟨gb130, 1, none⟩ = some (.string (⟨#[]⟩ : ByteArray)) := (blk_cell BK130.out 1).trans rfl; have hcz47_2 : w38.cell? ⟨gb130, 2, none⟩ = some (.slice none 0 0) := (blk_cell BK130.out 2).trans rfl; have hfz47_0 := blk_frozen BK130.out 0; have hfz47_1 := blk_frozen BK130.out 1; have hfz47_2 := blk_frozen BK130.out 2; have p32 : 0 ≤ ((ji29) : Int) := of_decide_eq_true (by first | (with_reducible assumption) | assumption); have q32 : (ji29) < (((rd_T33 l0 (ji7)).f1).size : Int) := of_decide_eq_true (by first | (with_reducible assumption) | assumption); have hx32 := bt_at ((rd_T33 l0 (ji7)).f1) (ji29); replace p32 := eq_true p32; replace q32 := eq_true q32; have tkA33 : True := trivial) | (go_at_call 56; clear tkA33; (with_reducible refine (span_edge.calls (bt ((rd_T33 l0 (ji7)).f1) (ji29)) t132 _ A33.out).mono ?_); rintro e w' ⟨rfl, ⟨nd, rfl⟩⟩))
            go_ret
            exact ⟨by first | rfl | (simp [errW_none, errW_some] <;> rfl) | (simp only [← hji7, ← hji29]; first | rfl | (simp [errW_none, errW_some] <;> rfl)) | (simp [*, errW_none, errW_some] <;> rfl), by repeat (first | (with_reducible first | exact HB.out | apply below_alloc | apply pw_below_drewN | apply below_drew1 | refine below_set ?_ GE129.out | refine below_set ?_ GE130.out) | exact HB.out)⟩
           ·
            rw [if_neg c31] at H
            exact absurd H (by simp)
          ·
           rw [if_neg c30] at H
           exact absurd H (by simp)
         ·
          rw [if_neg c28] at H
          have c28b0 : (((rd_T33 l0 (ji7)).f0) == 1) = false := beq_eq_false_iff_ne.mpr c28
          have c28b1 : (((rd_T33 l0 (ji7)).f0) != 1) = true := bne_iff_ne.mpr c28
          obtain rfl := Option.some.inj H
          go_enter Tryd.func40, Tryd.ntmps40
          try go_wp2_with (first | ((with_reducible refine gate_callee (f := 55) rfl ?_); refine goesL_ (some 7) rfl rfl Tryd.func55 (by kernel_rfl) rfl #[.agg #[.bool false, .bool false], .slice A0 l0.length c0] rfl (by (try simp only [List.map_toArray, List.map_cons, List.map_nil]); first | done | rfl | (simp only [List.length_drop, List.length_take]; rfl)) ?_; (with_reducible refine (span_within_all.calls k false false _ _ l0 true _ ?side3 ?side1 ?side2 A2.out).mono ?_); (case side1 => repeat (first | exact HR0.out | (with_reducible refine Kd.C_alloc ?_ _) | (with_reducible refine Kd.C_drewN ?_ _) | (with_reducible refine Kd.C_drew ?_))); (case side2 => exact HC0.out); (case side3 => first | exact HT.out | exact Tabs.at HT.out (by repeat (with_reducible first | exact HB.out | apply below_alloc | apply pw_below_drewN | apply below_drew1))); rintro e w48 ⟨rfl, hb⟩; refine ⟨_, rfl, ?_⟩; have n0_ := Aside0.mk (below_step (by repeat (with_reducible first | exact HB.out | apply below_alloc | apply pw_below_drewN | apply below_drew1)) hb); clear HB; have HB := n0_; clear n0_; (try clear hb); (try clear hb2); (try clear hk); (try clear hi)))
          have n0_ := Aside0.mk (below_drew1 HB.out)
          clear HB
          have HB := n0_
          clear n0_
          have p127 : 0 ≤ (0 : Int) := (by omega)
          have q127 : 0 < (l0.length : Int) := of_decide_eq_true (by first | (with_reducible assumption) | assumption)
          obtain ⟨ad127, A127_2, c127_2, e127, hx127_0, hx127_1, hx127_2, hl127_2, hi127_2⟩ := at_T33 HR0.out 0 p127 q127
          have hw127_2 := hx127_2
          (try rw [show ((0 : Int)).toNat = 0 from rfl] at hw127_2)
          (try rw [show 0 * 3 = 0 from rfl] at hw127_2)
          (try rw [Addr.add_zero'] at hw127_2)
          have hw127_1 := hx127_1
          (try rw [show ((0 : Int)).toNat = 0 from rfl] at hw127_1)
          (try rw [show 0 * 3 = 0 from rfl] at hw127_1)
          (try rw [Addr.add_zero'] at hw127_1)
          have hw127_0 := hx127_0
          (try rw [show ((0 : Int)).toNat = 0 from rfl] at hw127_0)
          (try rw [show 0 * 3 = 0 from rfl] at hw127_0)
          (try rw [Addr.add_zero'] at hw127_0)
          cases e127
          have qi127 : (0 < l0.length) = True := eq_true (by omega)
          (try rw [show ((0 : Int)).toNat = 0 from rfl] at hx127_0)
          (try rw [show 0 * 3 = 0 from rfl] at hx127_0)
          (try rw [Addr.add_zero'] at hx127_0)
          (try rw [show ((0 : Int)).toNat = 0 from rfl] at hx127_1)
          (try rw [show 0 * 3 = 0 from rfl] at hx127_1)
          (try rw [Addr.add_zero'] at hx127_1)
          (try rw [show ((0 : Int)).toNat = 0 from rfl] at hx127_2)
          (try rw [show 0 * 3 = 0 from rfl] at hx127_2)
          (try rw [Addr.add_zero'] at hx127_2)
          replace hx127_0 := kc_ HB hx127_0
          replace hx127_1 := kc_ HB hx127_1
          replace hx127_2 := kc_ HB hx127_2
          have HR127_2 := Aside0.mk hi127_2
          have HC127_2 := Aside0.mk hl127_2
          clear hi127_2 hl127_2
          replace p127 := eq_true p127
          replace q127 := eq_true q127
          have p128 : 0 ≤ ((ji7) : Int) := of_decide_eq_true (by first | (with_reducible assumption) | assumption)
          have q128 : (ji7) < (l0.length : Int) := of_decide_eq_true (by first | (with_reducible assumption) | assumption)
          obtain ⟨ad128, A128_2, c128_2, e128, hx128_0, hx128_1, hx128_2, hl128_2, hi128_2⟩ := at_T33 HR0.out (ji7) p128 q128
          have hw128_2 := hx128_2
          have hw128_1 := hx128_1
          have hw128_0 := hx128_0
          obtain rfl : ad127 = ad128 := (by injection e128)
          replace hx128_0 := kc_ HB hx128_0
          replace hx128_1 := kc_ HB hx128_1
          replace hx128_2 := kc_ HB hx128_2
          have HR128_2 := Aside0.mk hi128_2
          have HC128_2 := Aside0.mk hl128_2
          clear hi128_2 hl128_2
          replace p128 := eq_true p128
          replace q128 := eq_true q128
          refine start_ (n := 13) (S := fun w' => w'.cell? ad127 = some (.int .i64 ((rd_T33 l0 0).f0)) ∧ w'.cell? ⟨ad127.block, ad127.off + 1, none⟩ = some (.string ((rd_T33 l0 0).f1)) ∧ w'.cell? ⟨ad127.block, ad127.off + 2, none⟩ = some (.slice A127_2 ((rd_T33 l0 0).f2).length c127_2) ∧ w'.cell? (ad127.add (((ji7)).toNat * 3)) = some (.int .i64 ((rd_T33 l0 (ji7)).f0)) ∧ w'.cell? ⟨(ad127.add (((ji7)).toNat * 3)).block, (ad127.add (((ji7)).toNat * 3)).off + 1, none⟩ = some (.string ((rd_T33 l0 (ji7)).f1)) ∧ w'.cell? ⟨(ad127.add (((ji7)).toNat * 3)).block, (ad127.add (((ji7)).toNat * 3)).off + 2, none⟩ = some (.slice A128_2 ((rd_T33 l0 (ji7)).f2).length c128_2)) (ds := []) #[false, false, false, false, false, false, false, false, false, false, false, false, false] (by kernel_rfl) rfl rfl ⟨(kc_ HB hw127_0), (kc_ HB hw127_1), (kc_ HB hw127_2), (kc_ HB hw128_0), (kc_ HB hw128_1), (kc_ HB hw128_2)⟩ (fun hHeld => ?_); refine with_tabW span_Right.tab5 span_Right.bits5 (fun HT_ HW_ => ?_)
          generalize w48.drew = w49 at HB HR127_2 HR128_2 hx127_0 hx127_1 hx127_2 hx128_0 hx128_1 hx128_2 hHeld ⊢
          refine pure_ (i := 0) (N := some 12) (v := ?_) (a' := ?_) #[true, false, false, false, false, false, false, false, false, false, false, false, false] rfl rfl (any_of HT_.out (by kernel_rfl)) (fun _ _ _ h => h) (Or.inl ⟨by rfl, ?_⟩) ?_ ?_
          rotate_left
          ·
           intro w'
           go_simp
           with_reducible rfl
          rotate_left
          ·
           simp only [Act.put, List.setIfInBounds_toArray, List.set_cons_zero, List.set_cons_succ, i64_w, i32_w]
           rfl
          refine pure_ (i := 1) (N := some 13) (v := ?_) (a' := ?_) #[true, true, false, false, false, false, false, false, false, false, false, false, false] rfl rfl (any_of HT_.out (by kernel_rfl)) (fun _ _ _ h => h) (Or.inl ⟨by rfl, ?_⟩) ?_ ?_
          rotate_left
          ·
           intro w'
           go_simp
           with_reducible rfl
          rotate_left
          ·
           simp only [Act.put, List.setIfInBounds_toArray, List.set_cons_zero, List.set_cons_succ, i64_w, i32_w]
           rfl
          refine pure_ (i := 3) (N := some 15) (v := ?_) (a' := ?_) #[true, true, false, true, false, false, false, false, false, false, false, false, false] rfl rfl (any_of HT_.out (by kernel_rfl)) (fun _ _ _ h => h) (Or.inl ⟨by rfl, ?_⟩) ?_ ?_
          rotate_left
          ·
           intro w'
           go_simp
           with_reducible rfl
          rotate_left
          ·
           simp only [Act.put, List.setIfInBounds_toArray, List.set_cons_zero, List.set_cons_succ, i64_w, i32_w]
           rfl
          refine pure_ (i := 4) (N := some 16) (v := ?_) (a' := ?_) #[true, true, false, true, true, false, false, false, false, false, false, false, false] rfl rfl (any_of HT_.out (by kernel_rfl)) (fun _ _ _ h => h) (Or.inl ⟨by rfl, ?_⟩) ?_ ?_
          rotate_left
          ·
           intro w'
           go_simp
           with_reducible rfl
          rotate_left
          ·
           simp only [Act.put, List.setIfInBounds_toArray, List.set_cons_zero, List.set_cons_succ, i64_w, i32_w]
           rfl
          refine pure_ (i := 5) (N := some 17) (v := ?_) (a' := ?_) #[true, true, false, true, true, true, false, false, false, false, false, false, false] rfl rfl (any_of HT_.out (by kernel_rfl)) (fun _ _ _ h => h) (Or.inl ⟨by rfl, ?_⟩) ?_ ?_
          rotate_left
          ·
           intro w'
           go_simp
           with_reducible rfl
          rotate_left
          ·
           simp only [Act.put, List.setIfInBounds_toArray, List.set_cons_zero, List.set_cons_succ, i64_w, i32_w]
           rfl
          refine pure_ (i := 6) (N := some 18) (v := ?_) (a' := ?_) #[true, true, false, true, true, true, true, false, false, false, false, false, false] rfl rfl (any_of HT_.out (by kernel_rfl)) (fun _ _ _ h => h) (Or.inl ⟨by rfl, ?_⟩) ?_ ?_
          rotate_left
          ·
           intro w'
           go_simp
           with_reducible rfl
          rotate_left
          ·
           simp only [Act.put, List.setIfInBounds_toArray, List.set_cons_zero, List.set_cons_succ, i64_w, i32_w]
           rfl
          refine pure_ (i := 7) (N := some 19) (v := ?_) (a' := ?_) #[true, true, false, true, true, true, true, true, false, false, false, false, false] rfl rfl (any_of HT_.out (by kernel_rfl)) (fun _ _ _ h => h) (Or.inl ⟨by rfl, ?_⟩) ?_ ?_
          rotate_left
          ·
           intro w'
           go_simp
           with_reducible rfl
          rotate_left
          ·
           simp only [Act.put, List.setIfInBounds_toArray, List.set_cons_zero, List.set_cons_succ, i64_w, i32_w]
           rfl
          refine take_ (i := 2) (N := some 14) (v := ?_) (a' := ?_) #[true, true, true, true, true, true, true, true, false, false, false, false, false] rfl rfl (take_ofW HT_.out HW_.out (by kernel_rfl)) (fun _ _ _ h => h) (Or.inl ⟨by rfl, ?_⟩) hHeld ?_ ?_
          rotate_left
          ·
           rintro w' ⟨s0, s1, s2, s3, s4, s5⟩
           go_simp
           with_reducible rfl
          rotate_left
          ·
           simp only [Act.put, List.setIfInBounds_toArray, List.set_cons_zero, List.set_cons_succ, i64_w, i32_w]
           rfl
          refine take_ (i := 8) (N := some 20) (v := ?_) (a' := ?_) #[true, true, true, true, true, true, true, true, true, false, false, false, false] rfl rfl (take_ofW HT_.out HW_.out (by kernel_rfl)) (fun _ _ _ h => h) (Or.inl ⟨by rfl, ?_⟩) hHeld ?_ ?_
          rotate_left
          ·
           rintro w' ⟨s0, s1, s2, s3, s4, s5⟩
           go_simp
           with_reducible rfl
          rotate_left
          ·
           simp only [Act.put, List.setIfInBounds_toArray, List.set_cons_zero, List.set_cons_succ, i64_w, i32_w]
           rfl
          refine join_ (σ := Nat × Nat) 2 #[true, true, true, true, true, true, true, true, true, true, true, false, false] (fun s_ => [(3, .pointer (some ⟨s_.1, 0, none⟩)), (4, .pointer (some ⟨s_.2, 0, none⟩))]) (fun s_ w' => (w'.cell? ad127 = some (.int .i64 ((rd_T33 l0 0).f0)) ∧ w'.cell? ⟨ad127.block, ad127.off + 1, none⟩ = some (.string ((rd_T33 l0 0).f1)) ∧ w'.cell? ⟨ad127.block, ad127.off + 2, none⟩ = some (.slice A127_2 ((rd_T33 l0 0).f2).length c127_2) ∧ w'.cell? (ad127.add (((ji7)).toNat * 3)) = some (.int .i64 ((rd_T33 l0 (ji7)).f0)) ∧ w'.cell? ⟨(ad127.add (((ji7)).toNat * 3)).block, (ad127.add (((ji7)).toNat * 3)).off + 1, none⟩ = some (.string ((rd_T33 l0 (ji7)).f1)) ∧ w'.cell? ⟨(ad127.add (((ji7)).toNat * 3)).block, (ad127.add (((ji7)).toNat * 3)).off + 2, none⟩ = some (.slice A128_2 ((rd_T33 l0 (ji7)).f2).length c128_2)) ∧ (w'.heap[s_.1]? = some (.cells #[.int .i64 0, .string (⟨#[]⟩ : ByteArray), .slice none 0 0] 33 (0, 0))) ∧ (w'.heap[s_.2]? = some (.cells #[.int .i64 0, .string (⟨#[]⟩ : ByteArray), .slice none 0 0] 33 (0, 0))) ∧ (w.heap.size ≤ s_.1) ∧ (w.heap.size ≤ s_.1) ∧ (s_.2 ≠ s_.1) ∧ (s_.1 ≠ s_.2) ∧ (w.heap.size ≤ s_.2) ∧ (w.heap.size ≤ s_.2) ∧ (Below w.heap.size w w')) ?_ ?_
          rotate_left
          ·
           intro hCont
           refine two_ (i := 9) (j := 10) (Ni := some 3) (Nj := some 4) #[true, true, true, true, true, true, true, true, true, true, false, false, false] #[true, true, true, true, true, true, true, true, true, false, true, false, false] rfl rfl rfl rfl (two_of HT_.out (by kernel_rfl)) (by decide) (by decide) (fun K hK => ?_) (fun K hK => ?_)
           ·
            skip
            refine box_step ?hg (N := 3) ?hd (cs := #[.int .i64 0, .string (⟨#[]⟩ : ByteArray), .slice none 0 0]) (t := 33) ?hr ?_; (case hd => rfl); (case hg => rfl); (case hr => first | (go_simp; done) | (go_simp; rfl))
            intro gb129 hg w50 hbox hb
            have n0_ := Aside0.mk (below_step (by repeat (with_reducible first | exact HB.out | apply below_alloc | apply pw_below_drewN | apply below_drew1)) hb)
            have n1_ := Aside0.mk (hbox)
            have n2_ := Aside0.mk ((by rw [hg]; exact (below_size (by repeat (with_reducible first | exact HB.out | apply below_alloc | apply pw_below_drewN | apply below_drew1))) : w.heap.size ≤ gb129))
            have n3_ := Aside0.mk ((by rw [hg]; exact (below_size (by repeat (with_reducible first | exact HB.out | apply below_alloc | apply pw_below_drewN | apply below_drew1))) : w.heap.size ≤ gb129))
            clear HB
            have HB := n0_
            have BK129 := n1_
            have GW129 := n2_
            have GE129 := n3_
            clear n0_ n1_ n2_ n3_
            clear hb hbox hg
            refine hK.out _ _ ⟨(kc_ HB hw127_0), (kc_ HB hw127_1), (kc_ HB hw127_2), (kc_ HB hw128_0), (kc_ HB hw128_1), (kc_ HB hw128_2)⟩ (fun hHeld => ?_)
            clear hK K
            refine norm_ (a' := ?_) ?_ ?_
            rotate_left
            ·
             show Act.put _ (some 3) _ = _
             simp only [Act.put, List.setIfInBounds_toArray, List.set_cons_zero, List.set_cons_succ, i64_w, i32_w]
             rfl
            refine one_ (i := 10) (N := some 4) #[true, true, true, true, true, true, true, true, true, true, true, false, false] rfl rfl (one_of HT_.out (by kernel_rfl)) (by decide) (fun K hK => ?_)
            refine box_step ?hg (N := 4) ?hd (cs := #[.int .i64 0, .string (⟨#[]⟩ : ByteArray), .slice none 0 0]) (t := 33) ?hr ?_; (case hd => rfl); (case hg => rfl); (case hr => first | (go_simp; done) | (go_simp; rfl))
            intro gb130 hg w51 hbox hb
            have n0_ := Aside0.mk (blk_below (g := gb129) (o := .cells #[.int .i64 0, .string (⟨#[]⟩ : ByteArray), .slice none 0 0] 33 (0, 0)) (by (with_reducible repeat (first | refine blk_drewN ?_ _ | refine blk_drew ?_ | refine blk_alloc ?_ _)); exact BK129.out) hb)
            have n1_ := Aside0.mk (below_step (by repeat (first | (with_reducible first | exact HB.out | apply below_alloc | apply pw_below_drewN | apply below_drew1 | refine below_set ?_ GE129.out) | exact HB.out)) hb)
            have n2_ := Aside0.mk (hbox)
            have n3_ := Aside0.mk ((by rw [hg]; exact (below_size (by repeat (first | (with_reducible first | exact HB.out | apply below_alloc | apply pw_below_drewN | apply below_drew1 | refine below_set ?_ GE129.out) | exact HB.out))) : w.heap.size ≤ gb130))
            have n4_ := Aside0.mk ((by rw [hg]; exact (below_size (by repeat (first | (with_reducible first | exact HB.out | apply below_alloc | apply pw_below_drewN | apply below_drew1 | refine below_set ?_ GE129.out) | exact HB.out))) : w.heap.size ≤ gb130))
            have n5_ := Aside0.mk ((by rw [hg]; exact Nat.ne_of_lt (blk_lt (g := gb129) (o := .cells #[.int .i64 0, .string (⟨#[]⟩ : ByteArray), .slice none 0 0] 33 (0, 0)) (by (with_reducible repeat (first | refine blk_drewN ?_ _ | refine blk_drew ?_ | refine blk_alloc ?_ _)); exact BK129.out)) : gb129 ≠ gb130))
            have n6_ := Aside0.mk ((by rw [hg]; exact Nat.ne_of_gt (blk_lt (g := gb129) (o := .cells #[.int .i64 0, .string (⟨#[]⟩ : ByteArray), .slice none 0 0] 33 (0, 0)) (by (with_reducible repeat (first | refine blk_drewN ?_ _ | refine blk_drew ?_ | refine blk_alloc ?_ _)); exact BK129.out)) : gb130 ≠ gb129))
            clear BK129
            clear HB
            have BK129 := n0_
            have HB := n1_
            have BK130 := n2_
            have GW130 := n3_
            have GE130 := n4_
            have NB129_130 := n5_
            have NB130_129 := n6_
            clear n0_ n1_ n2_ n3_ n4_ n5_ n6_
            clear hb hbox hg
            refine hK.out _ _ ⟨(kc_ HB hw127_0), (kc_ HB hw127_1), (kc_ HB hw127_2), (kc_ HB hw128_0), (kc_ HB hw128_1), (kc_ HB hw128_2)⟩ (fun hHeld => ?_)
            clear hK K
            refine norm_ (a' := ?_) ?_ ?_
            rotate_left
            ·
             show Act.put _ (some 4) _ = _
             simp only [Act.put, List.setIfInBounds_toArray, List.set_cons_zero, List.set_cons_succ, i64_w, i32_w]
             rfl
            exact norm_ (by simp only [putAll, Act.put, List.setIfInBounds_toArray, List.set_cons_zero, List.set_cons_succ]) (hCont (gb129, gb130) _ ⟨hHeld, (by (with_reducible repeat (first | refine blk_drewN ?_ _ | refine blk_drew ?_ | refine blk_alloc ?_ _)); exact BK129.out), (by (with_reducible repeat (first | refine blk_drewN ?_ _ | refine blk_drew ?_ | refine blk_alloc ?_ _)); exact BK130.out), GW129.out, GE129.out, NB130_129.out, NB129_130.out, GW130.out, GE130.out, (by repeat (first | (with_reducible first | exact HB.out | apply below_alloc | apply pw_below_drewN | apply below_drew1 | refine below_set ?_ GE129.out | refine below_set ?_ GE130.out) | exact HB.out))⟩)
           ·
            skip
            refine box_step ?hg (N := 4) ?hd (cs := #[.int .i64 0, .string (⟨#[]⟩ : ByteArray), .slice none 0 0]) (t := 33) ?hr ?_; (case hd => rfl); (case hg => rfl); (case hr => first | (go_simp; done) | (go_simp; rfl))
            intro gb130 hg w50 hbox hb
            have n0_ := Aside0.mk (below_step (by repeat (with_reducible first | exact HB.out | apply below_alloc | apply pw_below_drewN | apply below_drew1)) hb)
            have n1_ := Aside0.mk (hbox)
            have n2_ := Aside0.mk ((by rw [hg]; exact (below_size (by repeat (with_reducible first | exact HB.out | apply below_alloc | apply pw_below_drewN | apply below_drew1))) : w.heap.size ≤ gb130))
            have n3_ := Aside0.mk ((by rw [hg]; exact (below_size (by repeat (with_reducible first | exact HB.out | apply below_alloc | apply pw_below_drewN | apply below_drew1))) : w.heap.size ≤ gb130))
            clear HB
            have HB := n0_
            have BK130 := n1_
            have GW130 := n2_
            have GE130 := n3_
            clear n0_ n1_ n2_ n3_
            clear hb hbox hg
            refine hK.out _ _ ⟨(kc_ HB hw127_0), (kc_ HB hw127_1), (kc_ HB hw127_2), (kc_ HB hw128_0), (kc_ HB hw128_1), (kc_ HB hw128_2)⟩ (fun hHeld => ?_)
            clear hK K
            refine norm_ (a' := ?_) ?_ ?_
            rotate_left
            ·
             show Act.put _ (some 4) _ = _
             simp only [Act.put, List.setIfInBounds_toArray, List.set_cons_zero, List.set_cons_succ, i64_w, i32_w]
             rfl
            refine one_ (i := 9) (N := some 3) #[true, true, true, true, true, true, true, true, true, true, true, false, false] rfl rfl (one_of HT_.out (by kernel_rfl)) (by decide) (fun K hK => ?_)
            refine box_step ?hg (N := 3) ?hd (cs := #[.int .i64 0, .string (⟨#[]⟩ : ByteArray), .slice none 0 0]) (t := 33) ?hr ?_; (case hd => rfl); (case hg => rfl); (case hr => first | (go_simp; done) | (go_simp; rfl))
            intro gb129 hg w51 hbox hb
            have n0_ := Aside0.mk (blk_below (g := gb130) (o := .cells #[.int .i64 0, .string (⟨#[]⟩ : ByteArray), .slice none 0 0] 33 (0, 0)) (by (with_reducible repeat (first | refine blk_drewN ?_ _ | refine blk_drew ?_ | refine blk_alloc ?_ _)); exact BK130.out) hb)
            have n1_ := Aside0.mk (below_step (by repeat (first | (with_reducible first | exact HB.out | apply below_alloc | apply pw_below_drewN | apply below_drew1 | refine below_set ?_ GE130.out) | exact HB.out)) hb)
            have n2_ := Aside0.mk (hbox)
            have n3_ := Aside0.mk ((by rw [hg]; exact (below_size (by repeat (first | (with_reducible first | exact HB.out | apply below_alloc | apply pw_below_drewN | apply below_drew1 | refine below_set ?_ GE130.out) | exact HB.out))) : w.heap.size ≤ gb129))
            have n4_ := Aside0.mk ((by rw [hg]; exact (below_size (by repeat (first | (with_reducible first | exact HB.out | apply below_alloc | apply pw_below_drewN | apply below_drew1 | refine below_set ?_ GE130.out) | exact HB.out))) : w.heap.size ≤ gb129))
            have n5_ := Aside0.mk ((by rw [hg]; exact Nat.ne_of_lt (blk_lt (g := gb130) (o := .cells #[.int .i64 0, .string (⟨#[]⟩ : ByteArray), .slice none 0 0] 33 (0, 0)) (by (with_reducible repeat (first | refine blk_drewN ?_ _ | refine blk_drew ?_ | refine blk_alloc ?_ _)); exact BK130.out)) : gb130 ≠ gb129))
            have n6_ := Aside0.mk ((by rw [hg]; exact Nat.ne_of_gt (blk_lt (g := gb130) (o := .cells #[.int .i64 0, .string (⟨#[]⟩ : ByteArray), .slice none 0 0] 33 (0, 0)) (by (with_reducible repeat (first | refine blk_drewN ?_ _ | refine blk_drew ?_ | refine blk_alloc ?_ _)); exact BK130.out)) : gb129 ≠ gb130))
            clear BK130
            clear HB
            have BK130 := n0_
            have HB := n1_
            have BK129 := n2_
            have GW129 := n3_
            have GE129 := n4_
            have NB130_129 := n5_
            have NB129_130 := n6_
            clear n0_ n1_ n2_ n3_ n4_ n5_ n6_
            clear hb hbox hg
            refine hK.out _ _ ⟨(kc_ HB hw127_0), (kc_ HB hw127_1), (kc_ HB hw127_2), (kc_ HB hw128_0), (kc_ HB hw128_1), (kc_ HB hw128_2)⟩ (fun hHeld => ?_)
            clear hK K
            refine norm_ (a' := ?_) ?_ ?_
            rotate_left
            ·
             show Act.put _ (some 3) _ = _
             simp only [Act.put, List.setIfInBounds_toArray, List.set_cons_zero, List.set_cons_succ, i64_w, i32_w]
             rfl
            exact norm_ (by simp only [putAll, Act.put, List.setIfInBounds_toArray, List.set_cons_zero, List.set_cons_succ]) (hCont (gb129, gb130) _ ⟨hHeld, (by (with_reducible repeat (first | refine blk_drewN ?_ _ | refine blk_drew ?_ | refine blk_alloc ?_ _)); exact BK129.out), (by (with_reducible repeat (first | refine blk_drewN ?_ _ | refine blk_drew ?_ | refine blk_alloc ?_ _)); exact BK130.out), GW129.out, GE129.out, NB130_129.out, NB129_130.out, GW130.out, GE130.out, (by repeat (first | (with_reducible first | exact HB.out | apply below_alloc | apply pw_below_drewN | apply below_drew1 | refine below_set ?_ GE130.out | refine below_set ?_ GE129.out) | exact HB.out))⟩)
          rintro ⟨gb129, gb130⟩ w52 ⟨hS_, h0_, h1_, h2_, h3_, h4_, h5_, h6_, h7_, h8_⟩
          have n0_ : Aside0 (w52.heap[gb129]? = some (.cells #[.int .i64 0, .string (⟨#[]⟩ : ByteArray), .slice none 0 0] 33 (0, 0))) := ⟨h0_⟩
          have n1_ : Aside0 (w52.heap[gb130]? = some (.cells #[.int .i64 0, .string (⟨#[]⟩ : ByteArray), .slice none 0 0] 33 (0, 0))) := ⟨h1_⟩
          have n2_ : Aside0 (w.heap.size ≤ gb129) := ⟨h2_⟩
          have n3_ : Aside0 (w.heap.size ≤ gb129) := ⟨h3_⟩
          have n4_ : Aside0 (gb130 ≠ gb129) := ⟨h4_⟩
          have n5_ : Aside0 (gb129 ≠ gb130) := ⟨h5_⟩
          have n6_ : Aside0 (w.heap.size ≤ gb130) := ⟨h6_⟩
          have n7_ : Aside0 (w.heap.size ≤ gb130) := ⟨h7_⟩
          have n8_ : Aside0 (Below w.heap.size w w52) := ⟨h8_⟩
          clear HB
          clear h0_ h1_ h2_ h3_ h4_ h5_ h6_ h7_ h8_
          have BK129 := n0_
          have BK130 := n1_
          have GW129 := n2_
          have GE129 := n3_
          have NB130_129 := n4_
          have NB129_130 := n5_
          have GW130 := n6_
          have GE130 := n7_
          have HB := n8_
          clear n0_ n1_ n2_ n3_ n4_ n5_ n6_ n7_ n8_
          have hHeld : w52.cell? ad127 = some (.int .i64 ((rd_T33 l0 0).f0)) ∧ w52.cell? ⟨ad127.block, ad127.off + 1, none⟩ = some (.string ((rd_T33 l0 0).f1)) ∧ w52.cell? ⟨ad127.block, ad127.off + 2, none⟩ = some (.slice A127_2 ((rd_T33 l0 0).f2).length c127_2) ∧ w52.cell? (ad127.add (((ji7)).toNat * 3)) = some (.int .i64 ((rd_T33 l0 (ji7)).f0)) ∧ w52.cell? ⟨(ad127.add (((ji7)).toNat * 3)).block, (ad127.add (((ji7)).toNat * 3)).off + 1, none⟩ = some (.string ((rd_T33 l0 (ji7)).f1)) ∧ w52.cell? ⟨(ad127.add (((ji7)).toNat * 3)).block, (ad127.add (((ji7)).toNat * 3)).off + 2, none⟩ = some (.slice A128_2 ((rd_T33 l0 (ji7)).f2).length c128_2) := hS_
          refine norm_ (a' := ?_) ?_ ?_
          rotate_left
          ·
           simp only [putAll, Act.put, List.setIfInBounds_toArray, List.set_cons_zero, List.set_cons_succ]
           rfl
          refine one_ (i := 11) (N := none) #[true, true, true, true, true, true, true, true, true, true, true, true, false] rfl rfl (one_of HT_.out (by kernel_rfl)) (by decide) (fun K hK => ?_)
          have hs53 : w52.cell? ⟨gb129, 0, none⟩ = some (.int .i64 0) := (blk_cell BK129.out 0).trans rfl
          have hfs53 := blk_frozen BK129.out 0
          have hns53_1 := NB130_129.out
          have hms53_1 := NB129_130.out
          have hs54 : w52.cell? ⟨gb129, 1, none⟩ = some (.string (⟨#[]⟩ : ByteArray)) := (blk_cell BK129.out 1).trans rfl
          have hfs54 := blk_frozen BK129.out 1
          have hns54_1 := NB130_129.out
          have hms54_1 := NB129_130.out
          have hs55 : w52.cell? ⟨gb129, 2, none⟩ = some (.slice none 0 0) := (blk_cell BK129.out 2).trans rfl
          have hfs55 := blk_frozen BK129.out 2
          have hns55_1 := NB130_129.out
          have hms55_1 := NB129_130.out
          refine skip_ (w1 := ?_) (by rfl) rfl ?_ ?_
          rotate_left
          ·
           go_simp
           rfl
          refine hK.out _ _ ⟨((cf_ hw127_0 GW129).trans (((cf_ hw127_0 GW129).trans (((cf_ hw127_0 GW129).trans (hHeld.1)))))), ((cf_ hw127_1 GW129).trans (((cf_ hw127_1 GW129).trans (((cf_ hw127_1 GW129).trans (hHeld.2.1)))))), ((cf_ hw127_2 GW129).trans (((cf_ hw127_2 GW129).trans (((cf_ hw127_2 GW129).trans (hHeld.2.2.1)))))), ((cf_ hw128_0 GW129).trans (((cf_ hw128_0 GW129).trans (((cf_ hw128_0 GW129).trans (hHeld.2.2.2.1)))))), ((cf_ hw128_1 GW129).trans (((cf_ hw128_1 GW129).trans (((cf_ hw128_1 GW129).trans (hHeld.2.2.2.2.1)))))), ((cf_ hw128_2 GW129).trans (((cf_ hw128_2 GW129).trans (((cf_ hw128_2 GW129).trans (hHeld.2.2.2.2.2))))))⟩ (fun hHeld => ?_)
          clear hK K
          refine one_ (i := 12) (N := none) #[true, true, true, true, true, true, true, true, true, true, true, true, true] rfl rfl (one_of HT_.out (by kernel_rfl)) (by decide) (fun K hK => ?_)
          have hs56 : w52.cell? ⟨gb130, 0, none⟩ = some (.int .i64 0) := (blk_cell BK130.out 0).trans rfl
          have hfs56 := blk_frozen BK130.out 0
          have hns56_0 := NB129_130.out
          have hms56_0 := NB130_129.out
          have hs57 : w52.cell? ⟨gb130, 1, none⟩ = some (.string (⟨#[]⟩ : ByteArray)) := (blk_cell BK130.out 1).trans rfl
          have hfs57 := blk_frozen BK130.out 1
          have hns57_0 := NB129_130.out
          have hms57_0 := NB130_129.out
          have hs58 : w52.cell? ⟨gb130, 2, none⟩ = some (.slice none 0 0) := (blk_cell BK130.out 2).trans rfl
          have hfs58 := blk_frozen BK130.out 2
          have hns58_0 := NB129_130.out
          have hms58_0 := NB130_129.out
          refine skip_ (w1 := ?_) (by rfl) rfl ?_ ?_
          rotate_left
          ·
           go_simp
           rfl
          refine hK.out _ _ ⟨((cf_ hw127_0 GW130).trans (((cf_ hw127_0 GW130).trans (((cf_ hw127_0 GW130).trans (hHeld.1)))))), ((cf_ hw127_1 GW130).trans (((cf_ hw127_1 GW130).trans (((cf_ hw127_1 GW130).trans (hHeld.2.1)))))), ((cf_ hw127_2 GW130).trans (((cf_ hw127_2 GW130).trans (((cf_ hw127_2 GW130).trans (hHeld.2.2.1)))))), ((cf_ hw128_0 GW130).trans (((cf_ hw128_0 GW130).trans (((cf_ hw128_0 GW130).trans (hHeld.2.2.2.1)))))), ((cf_ hw128_1 GW130).trans (((cf_ hw128_1 GW130).trans (((cf_ hw128_1 GW130).trans (hHeld.2.2.2.2.1)))))), ((cf_ hw128_2 GW130).trans (((cf_ hw128_2 GW130).trans (((cf_ hw128_2 GW130).trans (hHeld.2.2.2.2.2))))))⟩ (fun hHeld => ?_)
          clear hK K
          refine done_ (done_of HT_.out (by kernel_rfl)) ?_
          have hnb59 := NB129_130.out
          have hnc59 := NB130_129.out
          have hcz60_0 : w52.cell? ⟨gb129, 0, none⟩ = some (.int .i64 0) := (blk_cell BK129.out 0).trans rfl
          have hcz60_1 : w52.cell? ⟨gb129, 1, none⟩ = some (.string (⟨#[]⟩ : ByteArray)) := (blk_cell BK129.out 1).trans rfl
          have hcz60_2 : w52.cell? ⟨gb129, 2, none⟩ = some (.slice none 0 0) := (blk_cell BK129.out 2).trans rfl
          have hfz60_0 := blk_frozen BK129.out 0
          have hfz60_1 := blk_frozen BK129.out 1
          have hfz60_2 := blk_frozen BK129.out 2
          have p12 : 0 ≤ (0 : Int) := (by omega)
          have q12 : 0 < ((rd_T33 l0 0).f1).size := (by have : (0 : Int) < (((rd_T33 l0 0).f1).size : Int) := of_decide_eq_true (by first | (with_reducible assumption) | assumption); omega)
          have hx12 : ∀ h : 0 < ((rd_T33 l0 0).f1).size, ((((rd_T33 l0 0).f1)[0]'h).toNat : Int) = bt ((rd_T33 l0 0).f1) 0 := bt_at ((rd_T33 l0 0).f1) 0
          clear p12
          have qi12 : (0 < (((rd_T33 l0 0).f1).size : Int)) = True := eq_true (of_decide_eq_true (by first | (with_reducible assumption) | assumption))
          replace q12 := eq_true q12
          have tkA13 : True := trivial
          try go_wp2_with (first | (go_at_call 56; clear tkA13; (with_reducible refine (span_edge.calls (bt ((rd_T33 l0 0).f1) 0) false _ A13.out).mono ?_); rintro e w' ⟨rfl, ⟨nd, rfl⟩⟩; have hcz61_0 : w52.cell? ⟨gb130, 0, none⟩ = some (.int .i64 0) := (blk_cell BK130.out 0).trans rfl; have hcz61_1 : w52.cell? ⟨gb130, 1, none⟩ = some (.string (⟨#[]⟩ : ByteArray)) := (blk_cell BK130.out 1).trans rfl; have hcz61_2 : w52.cell? ⟨gb130, 2, none⟩ = some (.slice none 0 0) := (blk_cell BK130.out 2).trans rfl; have hfz61_0 := blk_frozen BK130.out 0; have hfz61_1 := blk_frozen BK130.out 1; have hfz61_2 := blk_frozen BK130.out 2))
          go_ret
          exact ⟨by first | rfl | (simp [errW_none, errW_some] <;> rfl) | (simp only [← hji7]; first | rfl | (simp [errW_none, errW_some] <;> rfl)) | (simp [*, errW_none, errW_some] <;> rfl), by repeat (first | (with_reducible first | exact HB.out | apply below_alloc | apply pw_below_drewN | apply below_drew1 | refine below_set ?_ GE129.out | refine below_set ?_ GE130.out) | exact HB.out)⟩
       ·
        rw [if_neg c11] at H
        exact absurd H (by simp)
      ·
       rw [if_neg c10] at H
       have c10b0 : (((rd_T33 l0 0).f0) == 1) = false := beq_eq_false_iff_ne.mpr c10
       have c10b1 : (((rd_T33 l0 0).f0) != 1) = true := bne_iff_ne.mpr c10
       by_cases c62 : ((rd_T33 l0 (ji7)).f0) = 1
       ·
        rw [if_pos c62] at H
        have c62b0 : (((rd_T33 l0 (ji7)).f0) == 1) = true := beq_iff_eq.mpr c62
        have c62b1 : (((rd_T33 l0 (ji7)).f0) != 1) = false := bne_eq_false_iff_eq.mpr c62
        clear c62
        obtain ⟨ji63, hji63⟩ : ∃ j_ : Int, (wrap64 ((((rd_T33 l0 (ji7)).f1).size : Int) - 1)) = j_ := ⟨_, rfl⟩
        replace H : (if 0 ≤ (ji63) then (if (ji63) < (((rd_T33 l0 (ji7)).f1).size : Int) then ((span_edge.f (bt ((rd_T33 l0 (ji7)).f1) (ji63))).bind fun t133 => (some (!t133))) else (none)) else (none)) = some r := by first | (rw [hji63] at H; exact H) | (simp only [hji63] at H ⊢; exact H)
        (try rw [hji63] at A2)
        have hji63w : (IntKind.i64.wrap ((((rd_T33 l0 (ji7)).f1).size : Int) - 1)) = ji63 := (i64_w _).trans hji63
        by_cases c64 : 0 ≤ (ji63)
        ·
         rw [if_pos c64] at H
         have c64b0 : decide (0 ≤ (ji63)) = true := decide_eq_true c64
         clear c64
         by_cases c65 : (ji63) < (((rd_T33 l0 (ji7)).f1).size : Int)
         ·
          rw [if_pos c65] at H
          have c65b0 : decide ((ji63) < (((rd_T33 l0 (ji7)).f1).size : Int)) = true := decide_eq_true c65
          clear c65
          replace H := Option.bind_eq_some_iff.mp H
          obtain ⟨t133, A670, H⟩ := H
          replace H : (some (!t133)) = some r := H
          have A67 := Aside0.mk A670
          clear A670
          obtain rfl := Option.some.inj H
          go_enter Tryd.func40, Tryd.ntmps40
          try go_wp2_with (first | ((with_reducible refine gate_callee (f := 55) rfl ?_); refine goesL_ (some 7) rfl rfl Tryd.func55 (by kernel_rfl) rfl #[.agg #[.bool false, .bool false], .slice A0 l0.length c0] rfl (by (try simp only [List.map_toArray, List.map_cons, List.map_nil]); first | done | rfl | (simp only [List.length_drop, List.length_take]; rfl)) ?_; (with_reducible refine (span_within_all.calls k false false _ _ l0 true _ ?side3 ?side1 ?side2 A2.out).mono ?_); (case side1 => repeat (first | exact HR0.out | (with_reducible refine Kd.C_alloc ?_ _) | (with_reducible refine Kd.C_drewN ?_ _) | (with_reducible refine Kd.C_drew ?_))); (case side2 => exact HC0.out); (case side3 => first | exact HT.out | exact Tabs.at HT.out (by repeat (with_reducible first | exact HB.out | apply below_alloc | apply pw_below_drewN | apply below_drew1))); rintro e w68 ⟨rfl, hb⟩; refine ⟨_, rfl, ?_⟩; have n0_ := Aside0.mk (below_step (by repeat (with_reducible first | exact HB.out | apply below_alloc | apply pw_below_drewN | apply below_drew1)) hb); clear HB; have HB := n0_; clear n0_; (try clear hb); (try clear hb2); (try clear hk); (try clear hi)))
          have n0_ := Aside0.mk (below_drew1 HB.out)
          clear HB
          have HB := n0_
          clear n0_
          have p127 : 0 ≤ (0 : Int) := (by omega)
          have q127 : 0 < (l0.length : Int) := of_decide_eq_true (by first | (with_reducible assumption) | assumption)
          obtain ⟨ad127, A127_2, c127_2, e127, hx127_0, hx127_1, hx127_2, hl127_2, hi127_2⟩ := at_T33 HR0.out 0 p127 q127
          have hw127_2 := hx127_2
          (try rw [show ((0 : Int)).toNat = 0 from rfl] at hw127_2)
          (try rw [show 0 * 3 = 0 from rfl] at hw127_2)
          (try rw [Addr.add_zero'] at hw127_2)
          have hw127_1 := hx127_1
          (try rw [show ((0 : Int)).toNat = 0 from rfl] at hw127_1)
          (try rw [show 0 * 3 = 0 from rfl] at hw127_1)
          (try rw [Addr.add_zero'] at hw127_1)
          have hw127_0 := hx127_0
          (try rw [show ((0 : Int)).toNat = 0 from rfl] at hw127_0)
          (try rw [show 0 * 3 = 0 from rfl] at hw127_0)
          (try rw [Addr.add_zero'] at hw127_0)
          cases e127
          have qi127 : (0 < l0.length) = True := eq_true (by omega)
          (try rw [show ((0 : Int)).toNat = 0 from rfl] at hx127_0)
          (try rw [show 0 * 3 = 0 from rfl] at hx127_0)
          (try rw [Addr.add_zero'] at hx127_0)
          (try rw [show ((0 : Int)).toNat = 0 from rfl] at hx127_1)
          (try rw [show 0 * 3 = 0 from rfl] at hx127_1)
          (try rw [Addr.add_zero'] at hx127_1)
          (try rw [show ((0 : Int)).toNat = 0 from rfl] at hx127_2)
          (try rw [show 0 * 3 = 0 from rfl] at hx127_2)
          (try rw [Addr.add_zero'] at hx127_2)
          replace hx127_0 := kc_ HB hx127_0
          replace hx127_1 := kc_ HB hx127_1
          replace hx127_2 := kc_ HB hx127_2
          have HR127_2 := Aside0.mk hi127_2
          have HC127_2 := Aside0.mk hl127_2
          clear hi127_2 hl127_2
          replace p127 := eq_true p127
          replace q127 := eq_true q127
          have p128 : 0 ≤ ((ji7) : Int) := of_decide_eq_true (by first | (with_reducible assumption) | assumption)
          have q128 : (ji7) < (l0.length : Int) := of_decide_eq_true (by first | (with_reducible assumption) | assumption)
          obtain ⟨ad128, A128_2, c128_2, e128, hx128_0, hx128_1, hx128_2, hl128_2, hi128_2⟩ := at_T33 HR0.out (ji7) p128 q128
          have hw128_2 := hx128_2
          have hw128_1 := hx128_1
          have hw128_0 := hx128_0
          obtain rfl : ad127 = ad128 := (by injection e128)
          replace hx128_0 := kc_ HB hx128_0
          replace hx128_1 := kc_ HB hx128_1
          replace hx128_2 := kc_ HB hx128_2
          have HR128_2 := Aside0.mk hi128_2
          have HC128_2 := Aside0.mk hl128_2
          clear hi128_2 hl128_2
          replace p128 := eq_true p128
          replace q128 := eq_true q128
          refine start_ (n := 13) (S := fun w' => w'.cell? ad127 = some (.int .i64 ((rd_T33 l0 0).f0)) ∧ w'.cell? ⟨ad127.block, ad127.off + 1, none⟩ = some (.string ((rd_T33 l0 0).f1)) ∧ w'.cell? ⟨ad127.block, ad127.off + 2, none⟩ = some (.slice A127_2 ((rd_T33 l0 0).f2).length c127_2) ∧ w'.cell? (ad127.add (((ji7)).toNat * 3)) = some (.int .i64 ((rd_T33 l0 (ji7)).f0)) ∧ w'.cell? ⟨(ad127.add (((ji7)).toNat * 3)).block, (ad127.add (((ji7)).toNat * 3)).off + 1, none⟩ = some (.string ((rd_T33 l0 (ji7)).f1)) ∧ w'.cell? ⟨(ad127.add (((ji7)).toNat * 3)).block, (ad127.add (((ji7)).toNat * 3)).off + 2, none⟩ = some (.slice A128_2 ((rd_T33 l0 (ji7)).f2).length c128_2)) (ds := []) #[false, false, false, false, false, false, false, false, false, false, false, false, false] (by kernel_rfl) rfl rfl ⟨(kc_ HB hw127_0), (kc_ HB hw127_1), (kc_ HB hw127_2), (kc_ HB hw128_0), (kc_ HB hw128_1), (kc_ HB hw128_2)⟩ (fun hHeld => ?_); refine with_tabW span_Right.tab5 span_Right.bits5 (fun HT_ HW_ => ?_)
          generalize w68.drew = w69 at HB HR127_2 HR128_2 hx127_0 hx127_1 hx127_2 hx128_0 hx128_1 hx128_2 hHeld ⊢
          refine pure_ (i := 0) (N := some 12) (v := ?_) (a' := ?_) #[true, false, false, false, false, false, false, false, false, false, false, false, false] rfl rfl (any_of HT_.out (by kernel_rfl)) (fun _ _ _ h => h) (Or.inl ⟨by rfl, ?_⟩) ?_ ?_
          rotate_left
          ·
           intro w'
           go_simp
           with_reducible rfl
          rotate_left
          ·
           simp only [Act.put, List.setIfInBounds_toArray, List.set_cons_zero, List.set_cons_succ, i64_w, i32_w]
           rfl
          refine pure_ (i := 1) (N := some 13) (v := ?_) (a' := ?_) #[true, true, false, false, false, false, false, false, false, false, false, false, false] rfl rfl (any_of HT_.out (by kernel_rfl)) (fun _ _ _ h => h) (Or.inl ⟨by rfl, ?_⟩) ?_ ?_
          rotate_left
          ·
           intro w'
           go_simp
           with_reducible rfl
          rotate_left
          ·
           simp only [Act.put, List.setIfInBounds_toArray, List.set_cons_zero, List.set_cons_succ, i64_w, i32_w]
           rfl
          refine pure_ (i := 3) (N := some 15) (v := ?_) (a' := ?_) #[true, true, false, true, false, false, false, false, false, false, false, false, false] rfl rfl (any_of HT_.out (by kernel_rfl)) (fun _ _ _ h => h) (Or.inl ⟨by rfl, ?_⟩) ?_ ?_
          rotate_left
          ·
           intro w'
           go_simp
           with_reducible rfl
          rotate_left
          ·
           simp only [Act.put, List.setIfInBounds_toArray, List.set_cons_zero, List.set_cons_succ, i64_w, i32_w]
           rfl
          refine pure_ (i := 4) (N := some 16) (v := ?_) (a' := ?_) #[true, true, false, true, true, false, false, false, false, false, false, false, false] rfl rfl (any_of HT_.out (by kernel_rfl)) (fun _ _ _ h => h) (Or.inl ⟨by rfl, ?_⟩) ?_ ?_
          rotate_left
          ·
           intro w'
           go_simp
           with_reducible rfl
          rotate_left
          ·
           simp only [Act.put, List.setIfInBounds_toArray, List.set_cons_zero, List.set_cons_succ, i64_w, i32_w]
           rfl
          refine pure_ (i := 5) (N := some 17) (v := ?_) (a' := ?_) #[true, true, false, true, true, true, false, false, false, false, false, false, false] rfl rfl (any_of HT_.out (by kernel_rfl)) (fun _ _ _ h => h) (Or.inl ⟨by rfl, ?_⟩) ?_ ?_
          rotate_left
          ·
           intro w'
           go_simp
           with_reducible rfl
          rotate_left
          ·
           simp only [Act.put, List.setIfInBounds_toArray, List.set_cons_zero, List.set_cons_succ, i64_w, i32_w]
           rfl
          refine pure_ (i := 6) (N := some 18) (v := ?_) (a' := ?_) #[true, true, false, true, true, true, true, false, false, false, false, false, false] rfl rfl (any_of HT_.out (by kernel_rfl)) (fun _ _ _ h => h) (Or.inl ⟨by rfl, ?_⟩) ?_ ?_
          rotate_left
          ·
           intro w'
           go_simp
           with_reducible rfl
          rotate_left
          ·
           simp only [Act.put, List.setIfInBounds_toArray, List.set_cons_zero, List.set_cons_succ, i64_w, i32_w]
           rfl
          refine pure_ (i := 7) (N := some 19) (v := ?_) (a' := ?_) #[true, true, false, true, true, true, true, true, false, false, false, false, false] rfl rfl (any_of HT_.out (by kernel_rfl)) (fun _ _ _ h => h) (Or.inl ⟨by rfl, ?_⟩) ?_ ?_
          rotate_left
          ·
           intro w'
           go_simp
           with_reducible rfl
          rotate_left
          ·
           simp only [Act.put, List.setIfInBounds_toArray, List.set_cons_zero, List.set_cons_succ, i64_w, i32_w]
           rfl
          refine take_ (i := 2) (N := some 14) (v := ?_) (a' := ?_) #[true, true, true, true, true, true, true, true, false, false, false, false, false] rfl rfl (take_ofW HT_.out HW_.out (by kernel_rfl)) (fun _ _ _ h => h) (Or.inl ⟨by rfl, ?_⟩) hHeld ?_ ?_
          rotate_left
          ·
           rintro w' ⟨s0, s1, s2, s3, s4, s5⟩
           go_simp
           with_reducible rfl
          rotate_left
          ·
           simp only [Act.put, List.setIfInBounds_toArray, List.set_cons_zero, List.set_cons_succ, i64_w, i32_w]
           rfl
          refine take_ (i := 8) (N := some 20) (v := ?_) (a' := ?_) #[true, true, true, true, true, true, true, true, true, false, false, false, false] rfl rfl (take_ofW HT_.out HW_.out (by kernel_rfl)) (fun _ _ _ h => h) (Or.inl ⟨by rfl, ?_⟩) hHeld ?_ ?_
          rotate_left
          ·
           rintro w' ⟨s0, s1, s2, s3, s4, s5⟩
           go_simp
           with_reducible rfl
          rotate_left
          ·
           simp only [Act.put, List.setIfInBounds_toArray, List.set_cons_zero, List.set_cons_succ, i64_w, i32_w]
           rfl
          refine join_ (σ := Nat × Nat) 2 #[true, true, true, true, true, true, true, true, true, true, true, false, false] (fun s_ => [(3, .pointer (some ⟨s_.1, 0, none⟩)), (4, .pointer (some ⟨s_.2, 0, none⟩))]) (fun s_ w' => (w'.cell? ad127 = some (.int .i64 ((rd_T33 l0 0).f0)) ∧ w'.cell? ⟨ad127.block, ad127.off + 1, none⟩ = some (.string ((rd_T33 l0 0).f1)) ∧ w'.cell? ⟨ad127.block, ad127.off + 2, none⟩ = some (.slice A127_2 ((rd_T33 l0 0).f2).length c127_2) ∧ w'.cell? (ad127.add (((ji7)).toNat * 3)) = some (.int .i64 ((rd_T33 l0 (ji7)).f0)) ∧ w'.cell? ⟨(ad127.add (((ji7)).toNat * 3)).block, (ad127.add (((ji7)).toNat * 3)).off + 1, none⟩ = some (.string ((rd_T33 l0 (ji7)).f1)) ∧ w'.cell? ⟨(ad127.add (((ji7)).toNat * 3)).block, (ad127.add (((ji7)).toNat * 3)).off + 2, none⟩ = some (.slice A128_2 ((rd_T33 l0 (ji7)).f2).length c128_2)) ∧ (w'.heap[s_.1]? = some (.cells #[.int .i64 0, .string (⟨#[]⟩ : ByteArray), .slice none 0 0] 33 (0, 0))) ∧ (w'.heap[s_.2]? = some (.cells #[.int .i64 0, .string (⟨#[]⟩ : ByteArray), .slice none 0 0] 33 (0, 0))) ∧ (w.heap.size ≤ s_.1) ∧ (w.heap.size ≤ s_.1) ∧ (s_.2 ≠ s_.1) ∧ (s_.1 ≠ s_.2) ∧ (w.heap.size ≤ s_.2) ∧ (w.heap.size ≤ s_.2) ∧ (Below w.heap.size w w')) ?_ ?_
          rotate_left
          ·
           intro hCont
           refine two_ (i := 9) (j := 10) (Ni := some 3) (Nj := some 4) #[true, true, true, true, true, true, true, true, true, true, false, false, false] #[true, true, true, true, true, true, true, true, true, false, true, false, false] rfl rfl rfl rfl (two_of HT_.out (by kernel_rfl)) (by decide) (by decide) (fun K hK => ?_) (fun K hK => ?_)
           ·
            skip
            refine box_step ?hg (N := 3) ?hd (cs := #[.int .i64 0, .string (⟨#[]⟩ : ByteArray), .slice none 0 0]) (t := 33) ?hr ?_; (case hd => rfl); (case hg => rfl); (case hr => first | (go_simp; done) | (go_simp; rfl))
            intro gb129 hg w70 hbox hb
            have n0_ := Aside0.mk (below_step (by repeat (with_reducible first | exact HB.out | apply below_alloc | apply pw_below_drewN | apply below_drew1)) hb)
            have n1_ := Aside0.mk (hbox)
            have n2_ := Aside0.mk ((by rw [hg]; exact (below_size (by repeat (with_reducible first | exact HB.out | apply below_alloc | apply pw_below_drewN | apply below_drew1))) : w.heap.size ≤ gb129))
            have n3_ := Aside0.mk ((by rw [hg]; exact (below_size (by repeat (with_reducible first | exact HB.out | apply below_alloc | apply pw_below_drewN | apply below_drew1))) : w.heap.size ≤ gb129))
            clear HB
            have HB := n0_
            have BK129 := n1_
            have GW129 := n2_
            have GE129 := n3_
            clear n0_ n1_ n2_ n3_
            clear hb hbox hg
            refine hK.out _ _ ⟨(kc_ HB hw127_0), (kc_ HB hw127_1), (kc_ HB hw127_2), (kc_ HB hw128_0), (kc_ HB hw128_1), (kc_ HB hw128_2)⟩ (fun hHeld => ?_)
            clear hK K
            refine norm_ (a' := ?_) ?_ ?_
            rotate_left
            ·
             show Act.put _ (some 3) _ = _
             simp only [Act.put, List.setIfInBounds_toArray, List.set_cons_zero, List.set_cons_succ, i64_w, i32_w]
             rfl
            refine one_ (i := 10) (N := some 4) #[true, true, true, true, true, true, true, true, true, true, true, false, false] rfl rfl (one_of HT_.out (by kernel_rfl)) (by decide) (fun K hK => ?_)
            refine box_step ?hg (N := 4) ?hd (cs := #[.int .i64 0, .string (⟨#[]⟩ : ByteArray), .slice none 0 0]) (t := 33) ?hr ?_; (case hd => rfl); (case hg => rfl); (case hr => first | (go_simp; done) | (go_simp; rfl))
            intro gb130 hg w71 hbox hb
            have n0_ := Aside0.mk (blk_below (g := gb129) (o := .cells #[.int .i64 0, .string (⟨#[]⟩ : ByteArray), .slice none 0 0] 33 (0, 0)) (by (with_reducible repeat (first | refine blk_drewN ?_ _ | refine blk_drew ?_ | refine blk_alloc ?_ _)); exact BK129.out) hb)
            have n1_ := Aside0.mk (below_step (by repeat (first | (with_reducible first | exact HB.out | apply below_alloc | apply pw_below_drewN | apply below_drew1 | refine below_set ?_ GE129.out) | exact HB.out)) hb)
            have n2_ := Aside0.mk (hbox)
            have n3_ := Aside0.mk ((by rw [hg]; exact (below_size (by repeat (first | (with_reducible first | exact HB.out | apply below_alloc | apply pw_below_drewN | apply below_drew1 | refine below_set ?_ GE129.out) | exact HB.out))) : w.heap.size ≤ gb130))
            have n4_ := Aside0.mk ((by rw [hg]; exact (below_size (by repeat (first | (with_reducible first | exact HB.out | apply below_alloc | apply pw_below_drewN | apply below_drew1 | refine below_set ?_ GE129.out) | exact HB.out))) : w.heap.size ≤ gb130))
            have n5_ := Aside0.mk ((by rw [hg]; exact Nat.ne_of_lt (blk_lt (g := gb129) (o := .cells #[.int .i64 0, .string (⟨#[]⟩ : ByteArray), .slice none 0 0] 33 (0, 0)) (by (with_reducible repeat (first | refine blk_drewN ?_ _ | refine blk_drew ?_ | refine blk_alloc ?_ _)); exact BK129.out)) : gb129 ≠ gb130))
            have n6_ := Aside0.mk ((by rw [hg]; exact Nat.ne_of_gt (blk_lt (g := gb129) (o := .cells #[.int .i64 0, .string (⟨#[]⟩ : ByteArray), .slice none 0 0] 33 (0, 0)) (by (with_reducible repeat (first | refine blk_drewN ?_ _ | refine blk_drew ?_ | refine blk_alloc ?_ _)); exact BK129.out)) : gb130 ≠ gb129))
            clear BK129
            clear HB
            have BK129 := n0_
            have HB := n1_
            have BK130 := n2_
            have GW130 := n3_
            have GE130 := n4_
            have NB129_130 := n5_
            have NB130_129 := n6_
            clear n0_ n1_ n2_ n3_ n4_ n5_ n6_
            clear hb hbox hg
            refine hK.out _ _ ⟨(kc_ HB hw127_0), (kc_ HB hw127_1), (kc_ HB hw127_2), (kc_ HB hw128_0), (kc_ HB hw128_1), (kc_ HB hw128_2)⟩ (fun hHeld => ?_)
            clear hK K
            refine norm_ (a' := ?_) ?_ ?_
            rotate_left
            ·
             show Act.put _ (some 4) _ = _
             simp only [Act.put, List.setIfInBounds_toArray, List.set_cons_zero, List.set_cons_succ, i64_w, i32_w]
             rfl
            exact norm_ (by simp only [putAll, Act.put, List.setIfInBounds_toArray, List.set_cons_zero, List.set_cons_succ]) (hCont (gb129, gb130) _ ⟨hHeld, (by (with_reducible repeat (first | refine blk_drewN ?_ _ | refine blk_drew ?_ | refine blk_alloc ?_ _)); exact BK129.out), (by (with_reducible repeat (first | refine blk_drewN ?_ _ | refine blk_drew ?_ | refine blk_alloc ?_ _)); exact BK130.out), GW129.out, GE129.out, NB130_129.out, NB129_130.out, GW130.out, GE130.out, (by repeat (first | (with_reducible first | exact HB.out | apply below_alloc | apply pw_below_drewN | apply below_drew1 | refine below_set ?_ GE129.out | refine below_set ?_ GE130.out) | exact HB.out))⟩)
           ·
            skip
            refine box_step ?hg (N := 4) ?hd (cs := #[.int .i64 0, .string (⟨#[]⟩ : ByteArray), .slice none 0 0]) (t := 33) ?hr ?_; (case hd => rfl); (case hg => rfl); (case hr => first | (go_simp; done) | (go_simp; rfl))
            intro gb130 hg w70 hbox hb
            have n0_ := Aside0.mk (below_step (by repeat (with_reducible first | exact HB.out | apply below_alloc | apply pw_below_drewN | apply below_drew1)) hb)
            have n1_ := Aside0.mk (hbox)
            have n2_ := Aside0.mk ((by rw [hg]; exact (below_size (by repeat (with_reducible first | exact HB.out | apply below_alloc | apply pw_below_drewN | apply below_drew1))) : w.heap.size ≤ gb130))
            have n3_ := Aside0.mk ((by rw [hg]; exact (below_size (by repeat (with_reducible first | exact HB.out | apply below_alloc | apply pw_below_drewN | apply below_drew1))) : w.heap.size ≤ gb130))
            clear HB
            have HB := n0_
            have BK130 := n1_
            have GW130 := n2_
            have GE130 := n3_
            clear n0_ n1_ n2_ n3_
            clear hb hbox hg
            refine hK.out _ _ ⟨(kc_ HB hw127_0), (kc_ HB hw127_1), (kc_ HB hw127_2), (kc_ HB hw128_0), (kc_ HB hw128_1), (kc_ HB hw128_2)⟩ (fun hHeld => ?_)
            clear hK K
            refine norm_ (a' := ?_) ?_ ?_
            rotate_left
            ·
             show Act.put _ (some 4) _ = _
             simp only [Act.put, List.setIfInBounds_toArray, List.set_cons_zero, List.set_cons_succ, i64_w, i32_w]
             rfl
            refine one_ (i := 9) (N := some 3) #[true, true, true, true, true, true, true, true, true, true, true, false, false] rfl rfl (one_of HT_.out (by kernel_rfl)) (by decide) (fun K hK => ?_)
            refine box_step ?hg (N := 3) ?hd (cs := #[.int .i64 0, .string (⟨#[]⟩ : ByteArray), .slice none 0 0]) (t := 33) ?hr ?_; (case hd => rfl); (case hg => rfl); (case hr => first | (go_simp; done) | (go_simp; rfl))
            intro gb129 hg w71 hbox hb
            have n0_ := Aside0.mk (blk_below (g := gb130) (o := .cells #[.int .i64 0, .string (⟨#[]⟩ : ByteArray), .slice none 0 0] 33 (0, 0)) (by (with_reducible repeat (first | refine blk_drewN ?_ _ | refine blk_drew ?_ | refine blk_alloc ?_ _)); exact BK130.out) hb)
            have n1_ := Aside0.mk (below_step (by repeat (first | (with_reducible first | exact HB.out | apply below_alloc | apply pw_below_drewN | apply below_drew1 | refine below_set ?_ GE130.out) | exact HB.out)) hb)
            have n2_ := Aside0.mk (hbox)
            have n3_ := Aside0.mk ((by rw [hg]; exact (below_size (by repeat (first | (with_reducible first | exact HB.out | apply below_alloc | apply pw_below_drewN | apply below_drew1 | refine below_set ?_ GE130.out) | exact HB.out))) : w.heap.size ≤ gb129))
            have n4_ := Aside0.mk ((by rw [hg]; exact (below_size (by repeat (first | (with_reducible first | exact HB.out | apply below_alloc | apply pw_below_drewN | apply below_drew1 | refine below_set ?_ GE130.out) | exact HB.out))) : w.heap.size ≤ gb129))
            have n5_ := Aside0.mk ((by rw [hg]; exact Nat.ne_of_lt (blk_lt (g := gb130) (o := .cells #[.int .i64 0, .string (⟨#[]⟩ : ByteArray), .slice none 0 0] 33 (0, 0)) (by (with_reducible repeat (first | refine blk_drewN ?_ _ | refine blk_drew ?_ | refine blk_alloc ?_ _)); exact BK130.out)) : gb130 ≠ gb129))
            have n6_ := Aside0.mk ((by rw [hg]; exact Nat.ne_of_gt (blk_lt (g := gb130) (o := .cells #[.int .i64 0, .string (⟨#[]⟩ : ByteArray), .slice none 0 0] 33 (0, 0)) (by (with_reducible repeat (first | refine blk_drewN ?_ _ | refine blk_drew ?_ | refine blk_alloc ?_ _)); exact BK130.out)) : gb129 ≠ gb130))
            clear BK130
            clear HB
            have BK130 := n0_
            have HB := n1_
            have BK129 := n2_
            have GW129 := n3_
            have GE129 := n4_
            have NB130_129 := n5_
            have NB129_130 := n6_
            clear n0_ n1_ n2_ n3_ n4_ n5_ n6_
            clear hb hbox hg
            refine hK.out _ _ ⟨(kc_ HB hw127_0), (kc_ HB hw127_1), (kc_ HB hw127_2), (kc_ HB hw128_0), (kc_ HB hw128_1), (kc_ HB hw128_2)⟩ (fun hHeld => ?_)
            clear hK K
            refine norm_ (a' := ?_) ?_ ?_
            rotate_left
            ·
             show Act.put _ (some 3) _ = _
             simp only [Act.put, List.setIfInBounds_toArray, List.set_cons_zero, List.set_cons_succ, i64_w, i32_w]
             rfl
            exact norm_ (by simp only [putAll, Act.put, List.setIfInBounds_toArray, List.set_cons_zero, List.set_cons_succ]) (hCont (gb129, gb130) _ ⟨hHeld, (by (with_reducible repeat (first | refine blk_drewN ?_ _ | refine blk_drew ?_ | refine blk_alloc ?_ _)); exact BK129.out), (by (with_reducible repeat (first | refine blk_drewN ?_ _ | refine blk_drew ?_ | refine blk_alloc ?_ _)); exact BK130.out), GW129.out, GE129.out, NB130_129.out, NB129_130.out, GW130.out, GE130.out, (by repeat (first | (with_reducible first | exact HB.out | apply below_alloc | apply pw_below_drewN | apply below_drew1 | refine below_set ?_ GE130.out | refine below_set ?_ GE129.out) | exact HB.out))⟩)
          rintro ⟨gb129, gb130⟩ w72 ⟨hS_, h0_, h1_, h2_, h3_, h4_, h5_, h6_, h7_, h8_⟩
          have n0_ : Aside0 (w72.heap[gb129]? = some (.cells #[.int .i64 0, .string (⟨#[]⟩ : ByteArray), .slice none 0 0] 33 (0, 0))) := ⟨h0_⟩
          have n1_ : Aside0 (w72.heap[gb130]? = some (.cells #[.int .i64 0, .string (⟨#[]⟩ : ByteArray), .slice none 0 0] 33 (0, 0))) := ⟨h1_⟩
          have n2_ : Aside0 (w.heap.size ≤ gb129) := ⟨h2_⟩
          have n3_ : Aside0 (w.heap.size ≤ gb129) := ⟨h3_⟩
          have n4_ : Aside0 (gb130 ≠ gb129) := ⟨h4_⟩
          have n5_ : Aside0 (gb129 ≠ gb130) := ⟨h5_⟩
          have n6_ : Aside0 (w.heap.size ≤ gb130) := ⟨h6_⟩
          have n7_ : Aside0 (w.heap.size ≤ gb130) := ⟨h7_⟩
          have n8_ : Aside0 (Below w.heap.size w w72) := ⟨h8_⟩
          clear HB
          clear h0_ h1_ h2_ h3_ h4_ h5_ h6_ h7_ h8_
          have BK129 := n0_
          have BK130 := n1_
          have GW129 := n2_
          have GE129 := n3_
          have NB130_129 := n4_
          have NB129_130 := n5_
          have GW130 := n6_
          have GE130 := n7_
          have HB := n8_
          clear n0_ n1_ n2_ n3_ n4_ n5_ n6_ n7_ n8_
          have hHeld : w72.cell? ad127 = some (.int .i64 ((rd_T33 l0 0).f0)) ∧ w72.cell? ⟨ad127.block, ad127.off + 1, none⟩ = some (.string ((rd_T33 l0 0).f1)) ∧ w72.cell? ⟨ad127.block, ad127.off + 2, none⟩ = some (.slice A127_2 ((rd_T33 l0 0).f2).length c127_2) ∧ w72.cell? (ad127.add (((ji7)).toNat * 3)) = some (.int .i64 ((rd_T33 l0 (ji7)).f0)) ∧ w72.cell? ⟨(ad127.add (((ji7)).toNat * 3)).block, (ad127.add (((ji7)).toNat * 3)).off + 1, none⟩ = some (.string ((rd_T33 l0 (ji7)).f1)) ∧ w72.cell? ⟨(ad127.add (((ji7)).toNat * 3)).block, (ad127.add (((ji7)).toNat * 3)).off + 2, none⟩ = some (.slice A128_2 ((rd_T33 l0 (ji7)).f2).length c128_2) := hS_
          refine norm_ (a' := ?_) ?_ ?_
          rotate_left
          ·
           simp only [putAll, Act.put, List.setIfInBounds_toArray, List.set_cons_zero, List.set_cons_succ]
           rfl
          refine one_ (i := 11) (N := none) #[true, true, true, true, true, true, true, true, true, true, true, true, false] rfl rfl (one_of HT_.out (by kernel_rfl)) (by decide) (fun K hK => ?_)
          have hs73 : w72.cell? ⟨gb129, 0, none⟩ = some (.int .i64 0) := (blk_cell BK129.out 0).trans rfl
          have hfs73 := blk_frozen BK129.out 0
          have hns73_1 := NB130_129.out
          have hms73_1 := NB129_130.out
          have hs74 : w72.cell? ⟨gb129, 1, none⟩ = some (.string (⟨#[]⟩ : ByteArray)) := (blk_cell BK129.out 1).trans rfl
          have hfs74 := blk_frozen BK129.out 1
          have hns74_1 := NB130_129.out
          have hms74_1 := NB129_130.out
          have hs75 : w72.cell? ⟨gb129, 2, none⟩ = some (.slice none 0 0) := (blk_cell BK129.out 2).trans rfl
          have hfs75 := blk_frozen BK129.out 2
          have hns75_1 := NB130_129.out
          have hms75_1 := NB129_130.out
          refine skip_ (w1 := ?_) (by rfl) rfl ?_ ?_
          rotate_left
          ·
           go_simp
           rfl
          refine hK.out _ _ ⟨((cf_ hw127_0 GW129).trans (((cf_ hw127_0 GW129).trans (((cf_ hw127_0 GW129).trans (hHeld.1)))))), ((cf_ hw127_1 GW129).trans (((cf_ hw127_1 GW129).trans (((cf_ hw127_1 GW129).trans (hHeld.2.1)))))), ((cf_ hw127_2 GW129).trans (((cf_ hw127_2 GW129).trans (((cf_ hw127_2 GW129).trans (hHeld.2.2.1)))))), ((cf_ hw128_0 GW129).trans (((cf_ hw128_0 GW129).trans (((cf_ hw128_0 GW129).trans (hHeld.2.2.2.1)))))), ((cf_ hw128_1 GW129).trans (((cf_ hw128_1 GW129).trans (((cf_ hw128_1 GW129).trans (hHeld.2.2.2.2.1)))))), ((cf_ hw128_2 GW129).trans (((cf_ hw128_2 GW129).trans (((cf_ hw128_2 GW129).trans (hHeld.2.2.2.2.2))))))⟩ (fun hHeld => ?_)
          clear hK K
          refine one_ (i := 12) (N := none) #[true, true, true, true, true, true, true, true, true, true, true, true, true] rfl rfl (one_of HT_.out (by kernel_rfl)) (by decide) (fun K hK => ?_)
          have hs76 : w72.cell? ⟨gb130, 0, none⟩ = some (.int .i64 0) := (blk_cell BK130.out 0).trans rfl
          have hfs76 := blk_frozen BK130.out 0
          have hns76_0 := NB129_130.out
          have hms76_0 := NB130_129.out
          have hs77 : w72.cell? ⟨gb130, 1, none⟩ = some (.string (⟨#[]⟩ : ByteArray)) := (blk_cell BK130.out 1).trans rfl
          have hfs77 := blk_frozen BK130.out 1
          have hns77_0 := NB129_130.out
          have hms77_0 := NB130_129.out
          have hs78 : w72.cell? ⟨gb130, 2, none⟩ = some (.slice none 0 0) := (blk_cell BK130.out 2).trans rfl
          have hfs78 := blk_frozen BK130.out 2
          have hns78_0 := NB129_130.out
          have hms78_0 := NB130_129.out
          refine skip_ (w1 := ?_) (by rfl) rfl ?_ ?_
          rotate_left
          ·
           go_simp
           rfl
          refine hK.out _ _ ⟨((cf_ hw127_0 GW130).trans (((cf_ hw127_0 GW130).trans (((cf_ hw127_0 GW130).trans (hHeld.1)))))), ((cf_ hw127_1 GW130).trans (((cf_ hw127_1 GW130).trans (((cf_ hw127_1 GW130).trans (hHeld.2.1)))))), ((cf_ hw127_2 GW130).trans (((cf_ hw127_2 GW130).trans (((cf_ hw127_2 GW130).trans (hHeld.2.2.1)))))), ((cf_ hw128_0 GW130).trans (((cf_ hw128_0 GW130).trans (((cf_ hw128_0 GW130).trans (hHeld.2.2.2.1)))))), ((cf_ hw128_1 GW130).trans (((cf_ hw128_1 GW130).trans (((cf_ hw128_1 GW130).trans (hHeld.2.2.2.2.1)))))), ((cf_ hw128_2 GW130).trans (((cf_ hw128_2 GW130).trans (((cf_ hw128_2 GW130).trans (hHeld.2.2.2.2.2))))))⟩ (fun hHeld => ?_)
          clear hK K
          refine done_ (done_of HT_.out (by kernel_rfl)) ?_
          have hnb79 := NB129_130.out
          have hnc79 := NB130_129.out
          have hcz80_0 : w72.cell? ⟨gb129, 0, none⟩ = some (.int .i64 0) := (blk_cell BK129.out 0).trans rfl
          have hcz80_1 : w72.cell? ⟨gb129, 1, none⟩ = some (.string (⟨#[]⟩ : ByteArray)) := (blk_cell BK129.out 1).trans rfl
          have hcz80_2 : w72.cell? ⟨gb129, 2, none⟩ = some (.slice none 0 0) := (blk_cell BK129.out 2).trans rfl
          have hfz80_0 := blk_frozen BK129.out 0
          have hfz80_1 := blk_frozen BK129.out 1
          have hfz80_2 := blk_frozen BK129.out 2
          have hcz81_0 : w72.cell? ⟨gb130, 0, none⟩ = some (.int .i64 0) := (blk_cell BK130.out 0).trans rfl
          have hcz81_1 : w72.cell? ⟨gb130, 1, none⟩ = some (.string (⟨#[]⟩ : ByteArray)) := (blk_cell BK130.out 1).trans rfl
          have hcz81_2 : w72.cell? ⟨gb130, 2, none⟩ = some (.slice none 0 0) := (blk_cell BK130.out 2).trans rfl
          have hfz81_0 := blk_frozen BK130.out 0
          have hfz81_1 := blk_frozen BK130.out 1
          have hfz81_2 := blk_frozen BK130.out 2
          have p66 : 0 ≤ ((ji63) : Int) := of_decide_eq_true (by first | (with_reducible assumption) | assumption)
          have q66 : (ji63) < (((rd_T33 l0 (ji7)).f1).size : Int) := of_decide_eq_true (by first | (with_reducible assumption) | assumption)
          have hx66 := bt_at ((rd_T33 l0 (ji7)).f1) (ji63)
          replace p66 := eq_true p66
          replace q66 := eq_true q66
          have tkA67 : True := trivial
          try go_wp2_with (first | (go_at_call 56; clear tkA67; (with_reducible refine (span_edge.calls (bt ((rd_T33 l0 (ji7)).f1) (ji63)) t133 _ A67.out).mono ?_); rintro e w' ⟨rfl, ⟨nd, rfl⟩⟩))
          go_ret
          exact ⟨by first | rfl | (simp [errW_none, errW_some] <;> rfl) | (simp only [← hji7, ← hji63]; first | rfl | (simp [errW_none, errW_some] <;> rfl)) | (simp [*, errW_none, errW_some] <;> rfl), by repeat (first | (with_reducible first | exact HB.out | apply below_alloc | apply pw_below_drewN | apply below_drew1 | refine below_set ?_ GE129.out | refine below_set ?_ GE130.out) | exact HB.out)⟩
         ·
          rw [if_neg c65] at H
          exact absurd H (by simp)
        ·
         rw [if_neg c64] at H
         exact absurd H (by simp)
       ·
        rw [if_neg c62] at H
        have c62b0 : (((rd_T33 l0 (ji7)).f0) == 1) = false := beq_eq_false_iff_ne.mpr c62
        have c62b1 : (((rd_T33 l0 (ji7)).f0) != 1) = true := bne_iff_ne.mpr c62
        obtain rfl := Option.some.inj H
        go_enter Tryd.func40, Tryd.ntmps40
        try go_wp2_with (first | ((with_reducible refine gate_callee (f := 55) rfl ?_); refine goesL_ (some 7) rfl rfl Tryd.func55 (by kernel_rfl) rfl #[.agg #[.bool false, .bool false], .slice A0 l0.length c0] rfl (by (try simp only [List.map_toArray, List.map_cons, List.map_nil]); first | done | rfl | (simp only [List.length_drop, List.length_take]; rfl)) ?_; (with_reducible refine (span_within_all.calls k false false _ _ l0 true _ ?side3 ?side1 ?side2 A2.out).mono ?_); (case side1 => repeat (first | exact HR0.out | (with_reducible refine Kd.C_alloc ?_ _) | (with_reducible refine Kd.C_drewN ?_ _) | (with_reducible refine Kd.C_drew ?_))); (case side2 => exact HC0.out); (case side3 => first | exact HT.out | exact Tabs.at HT.out (by repeat (with_reducible first | exact HB.out | apply below_alloc | apply pw_below_drewN | apply below_drew1))); rintro e w82 ⟨rfl, hb⟩; refine ⟨_, rfl, ?_⟩; have n0_ := Aside0.mk (below_step (by repeat (with_reducible first | exact HB.out | apply below_alloc | apply pw_below_drewN | apply below_drew1)) hb); clear HB; have HB := n0_; clear n0_; (try clear hb); (try clear hb2); (try clear hk); (try clear hi)))
        have n0_ := Aside0.mk (below_drew1 HB.out)
        clear HB
        have HB := n0_
        clear n0_
        have p127 : 0 ≤ (0 : Int) := (by omega)
        have q127 : 0 < (l0.length : Int) := of_decide_eq_true (by first | (with_reducible assumption) | assumption)
        obtain ⟨ad127, A127_2, c127_2, e127, hx127_0, hx127_1, hx127_2, hl127_2, hi127_2⟩ := at_T33 HR0.out 0 p127 q127
        have hw127_2 := hx127_2
        (try rw [show ((0 : Int)).toNat = 0 from rfl] at hw127_2)
        (try rw [show 0 * 3 = 0 from rfl] at hw127_2)
        (try rw [Addr.add_zero'] at hw127_2)
        have hw127_1 := hx127_1
        (try rw [show ((0 : Int)).toNat = 0 from rfl] at hw127_1)
        (try rw [show 0 * 3 = 0 from rfl] at hw127_1)
        (try rw [Addr.add_zero'] at hw127_1)
        have hw127_0 := hx127_0
        (try rw [show ((0 : Int)).toNat = 0 from rfl] at hw127_0)
        (try rw [show 0 * 3 = 0 from rfl] at hw127_0)
        (try rw [Addr.add_zero'] at hw127_0)
        cases e127
        have qi127 : (0 < l0.length) = True := eq_true (by omega)
        (try rw [show ((0 : Int)).toNat = 0 from rfl] at hx127_0)
        (try rw [show 0 * 3 = 0 from rfl] at hx127_0)
        (try rw [Addr.add_zero'] at hx127_0)
        (try rw [show ((0 : Int)).toNat = 0 from rfl] at hx127_1)
        (try rw [show 0 * 3 = 0 from rfl] at hx127_1)
        (try rw [Addr.add_zero'] at hx127_1)
        (try rw [show ((0 : Int)).toNat = 0 from rfl] at hx127_2)
        (try rw [show 0 * 3 = 0 from rfl] at hx127_2)
        (try rw [Addr.add_zero'] at hx127_2)
        replace hx127_0 := kc_ HB hx127_0
        replace hx127_1 := kc_ HB hx127_1
        replace hx127_2 := kc_ HB hx127_2
        have HR127_2 := Aside0.mk hi127_2
        have HC127_2 := Aside0.mk hl127_2
        clear hi127_2 hl127_2
        replace p127 := eq_true p127
        replace q127 := eq_true q127
        have p128 : 0 ≤ ((ji7) : Int) := of_decide_eq_true (by first | (with_reducible assumption) | assumption)
        have q128 : (ji7) < (l0.length : Int) := of_decide_eq_true (by first | (with_reducible assumption) | assumption)
        obtain ⟨ad128, A128_2, c128_2, e128, hx128_0, hx128_1, hx128_2, hl128_2, hi128_2⟩ := at_T33 HR0.out (ji7) p128 q128
        have hw128_2 := hx128_2
        have hw128_1 := hx128_1
        have hw128_0 := hx128_0
        obtain rfl : ad127 = ad128 := (by injection e128)
        replace hx128_0 := kc_ HB hx128_0
        replace hx128_1 := kc_ HB hx128_1
        replace hx128_2 := kc_ HB hx128_2
        have HR128_2 := Aside0.mk hi128_2
        have HC128_2 := Aside0.mk hl128_2
        clear hi128_2 hl128_2
        replace p128 := eq_true p128
        replace q128 := eq_true q128
        refine start_ (n := 13) (S := fun w' => w'.cell? ad127 = some (.int .i64 ((rd_T33 l0 0).f0)) ∧ w'.cell? ⟨ad127.block, ad127.off + 1, none⟩ = some (.string ((rd_T33 l0 0).f1)) ∧ w'.cell? ⟨ad127.block, ad127.off + 2, none⟩ = some (.slice A127_2 ((rd_T33 l0 0).f2).length c127_2) ∧ w'.cell? (ad127.add (((ji7)).toNat * 3)) = some (.int .i64 ((rd_T33 l0 (ji7)).f0)) ∧ w'.cell? ⟨(ad127.add (((ji7)).toNat * 3)).block, (ad127.add (((ji7)).toNat * 3)).off + 1, none⟩ = some (.string ((rd_T33 l0 (ji7)).f1)) ∧ w'.cell? ⟨(ad127.add (((ji7)).toNat * 3)).block, (ad127.add (((ji7)).toNat * 3)).off + 2, none⟩ = some (.slice A128_2 ((rd_T33 l0 (ji7)).f2).length c128_2)) (ds := []) #[false, false, false, false, false, false, false, false, false, false, false, false, false] (by kernel_rfl) rfl rfl ⟨(kc_ HB hw127_0), (kc_ HB hw127_1), (kc_ HB hw127_2), (kc_ HB hw128_0), (kc_ HB hw128_1), (kc_ HB hw128_2)⟩ (fun hHeld => ?_); refine with_tabW span_Right.tab5 span_Right.bits5 (fun HT_ HW_ => ?_)
        generalize w82.drew = w83 at HB HR127_2 HR128_2 hx127_0 hx127_1 hx127_2 hx128_0 hx128_1 hx128_2 hHeld ⊢
        refine pure_ (i := 0) (N := some 12) (v := ?_) (a' := ?_) #[true, false, false, false, false, false, false, false, false, false, false, false, false] rfl rfl (any_of HT_.out (by kernel_rfl)) (fun _ _ _ h => h) (Or.inl ⟨by rfl, ?_⟩) ?_ ?_
        rotate_left
        ·
         intro w'
         go_simp
         with_reducible rfl
        rotate_left
        ·
         simp only [Act.put, List.setIfInBounds_toArray, List.set_cons_zero, List.set_cons_succ, i64_w, i32_w]
         rfl
        refine pure_ (i := 1) (N := some 13) (v := ?_) (a' := ?_) #[true, true, false, false, false, false, false, false, false, false, false, false, false] rfl rfl (any_of HT_.out (by kernel_rfl)) (fun _ _ _ h => h) (Or.inl ⟨by rfl, ?_⟩) ?_ ?_
        rotate_left
        ·
         intro w'
         go_simp
         with_reducible rfl
        rotate_left
        ·
         simp only [Act.put, List.setIfInBounds_toArray, List.set_cons_zero, List.set_cons_succ, i64_w, i32_w]
         rfl
        refine pure_ (i := 3) (N := some 15) (v := ?_) (a' := ?_) #[true, true, false, true, false, false, false, false, false, false, false, false, false] rfl rfl (any_of HT_.out (by kernel_rfl)) (fun _ _ _ h => h) (Or.inl ⟨by rfl, ?_⟩) ?_ ?_
        rotate_left
        ·
         intro w'
         go_simp
         with_reducible rfl
        rotate_left
        ·
         simp only [Act.put, List.setIfInBounds_toArray, List.set_cons_zero, List.set_cons_succ, i64_w, i32_w]
         rfl
        refine pure_ (i := 4) (N := some 16) (v := ?_) (a' := ?_) #[true, true, false, true, true, false, false, false, false, false, false, false, false] rfl rfl (any_of HT_.out (by kernel_rfl)) (fun _ _ _ h => h) (Or.inl ⟨by rfl, ?_⟩) ?_ ?_
        rotate_left
        ·
         intro w'
         go_simp
         with_reducible rfl
        rotate_left
        ·
         simp only [Act.put, List.setIfInBounds_toArray, List.set_cons_zero, List.set_cons_succ, i64_w, i32_w]
         rfl
        refine pure_ (i := 5) (N := some 17) (v := ?_) (a' := ?_) #[true, true, false, true, true, true, false, false, false, false, false, false, false] rfl rfl (any_of HT_.out (by kernel_rfl)) (fun _ _ _ h => h) (Or.inl ⟨by rfl, ?_⟩) ?_ ?_
        rotate_left
        ·
         intro w'
         go_simp
         with_reducible rfl
        rotate_left
        ·
         simp only [Act.put, List.setIfInBounds_toArray, List.set_cons_zero, List.set_cons_succ, i64_w, i32_w]
         rfl
        refine pure_ (i := 6) (N := some 18) (v := ?_) (a' := ?_) #[true, true, false, true, true, true, true, false, false, false, false, false, false] rfl rfl (any_of HT_.out (by kernel_rfl)) (fun _ _ _ h => h) (Or.inl ⟨by rfl, ?_⟩) ?_ ?_
        rotate_left
        ·
         intro w'
         go_simp
         with_reducible rfl
        rotate_left
        ·
         simp only [Act.put, List.setIfInBounds_toArray, List.set_cons_zero, List.set_cons_succ, i64_w, i32_w]
         rfl
        refine pure_ (i := 7) (N := some 19) (v := ?_) (a' := ?_) #[true, true, false, true, true, true, true, true, false, false, false, false, false] rfl rfl (any_of HT_.out (by kernel_rfl)) (fun _ _ _ h => h) (Or.inl ⟨by rfl, ?_⟩) ?_ ?_
        rotate_left
        ·
         intro w'
         go_simp
         with_reducible rfl
        rotate_left
        ·
         simp only [Act.put, List.setIfInBounds_toArray, List.set_cons_zero, List.set_cons_succ, i64_w, i32_w]
         rfl
        refine take_ (i := 2) (N := some 14) (v := ?_) (a' := ?_) #[true, true, true, true, true, true, true, true, false, false, false, false, false] rfl rfl (take_ofW HT_.out HW_.out (by kernel_rfl)) (fun _ _ _ h => h) (Or.inl ⟨by rfl, ?_⟩) hHeld ?_ ?_
        rotate_left
        ·
         rintro w' ⟨s0, s1, s2, s3, s4, s5⟩
         go_simp
         with_reducible rfl
        rotate_left
        ·
         simp only [Act.put, List.setIfInBounds_toArray, List.set_cons_zero, List.set_cons_succ, i64_w, i32_w]
         rfl
        refine take_ (i := 8) (N := some 20) (v := ?_) (a' := ?_) #[true, true, true, true, true, true, true, true, true, false, false, false, false] rfl rfl (take_ofW HT_.out HW_.out (by kernel_rfl)) (fun _ _ _ h => h) (Or.inl ⟨by rfl, ?_⟩) hHeld ?_ ?_
        rotate_left
        ·
         rintro w' ⟨s0, s1, s2, s3, s4, s5⟩
         go_simp
         with_reducible rfl
        rotate_left
        ·
         simp only [Act.put, List.setIfInBounds_toArray, List.set_cons_zero, List.set_cons_succ, i64_w, i32_w]
         rfl
        refine join_ (σ := Nat × Nat) 2 #[true, true, true, true, true, true, true, true, true, true, true, false, false] (fun s_ => [(3, .pointer (some ⟨s_.1, 0, none⟩)), (4, .pointer (some ⟨s_.2, 0, none⟩))]) (fun s_ w' => (w'.cell? ad127 = some (.int .i64 ((rd_T33 l0 0).f0)) ∧ w'.cell? ⟨ad127.block, ad127.off + 1, none⟩ = some (.string ((rd_T33 l0 0).f1)) ∧ w'.cell? ⟨ad127.block, ad127.off + 2, none⟩ = some (.slice A127_2 ((rd_T33 l0 0).f2).length c127_2) ∧ w'.cell? (ad127.add (((ji7)).toNat * 3)) = some (.int .i64 ((rd_T33 l0 (ji7)).f0)) ∧ w'.cell? ⟨(ad127.add (((ji7)).toNat * 3)).block, (ad127.add (((ji7)).toNat * 3)).off + 1, none⟩ = some (.string ((rd_T33 l0 (ji7)).f1)) ∧ w'.cell? ⟨(ad127.add (((ji7)).toNat * 3)).block, (ad127.add (((ji7)).toNat * 3)).off + 2, none⟩ = some (.slice A128_2 ((rd_T33 l0 (ji7)).f2).length c128_2)) ∧ (w'.heap[s_.1]? = some (.cells #[.int .i64 0, .string (⟨#[]⟩ : ByteArray), .slice none 0 0] 33 (0, 0))) ∧ (w'.heap[s_.2]? = some (.cells #[.int .i64 0, .string (⟨#[]⟩ : ByteArray), .slice none 0 0] 33 (0, 0))) ∧ (w.heap.size ≤ s_.1) ∧ (w.heap.size ≤ s_.1) ∧ (s_.2 ≠ s_.1) ∧ (s_.1 ≠ s_.2) ∧ (w.heap.size ≤ s_.2) ∧ (w.heap.size ≤ s_.2) ∧ (Below w.heap.size w w')) ?_ ?_
        rotate_left
        ·
         intro hCont
         refine two_ (i := 9) (j := 10) (Ni := some 3) (Nj := some 4) #[true, true, true, true, true, true, true, true, true, true, false, false, false] #[true, true, true, true, true, true, true, true, true, false, true, false, false] rfl rfl rfl rfl (two_of HT_.out (by kernel_rfl)) (by decide) (by decide) (fun K hK => ?_) (fun K hK => ?_)
         ·
          skip
          refine box_step ?hg (N := 3) ?hd (cs := #[.int .i64 0, .string (⟨#[]⟩ : ByteArray), .slice none 0 0]) (t := 33) ?hr ?_; (case hd => rfl); (case hg => rfl); (case hr => first | (go_simp; done) | (go_simp; rfl))
          intro gb129 hg w84 hbox hb
          have n0_ := Aside0.mk (below_step (by repeat (with_reducible first | exact HB.out | apply below_alloc | apply pw_below_drewN | apply below_drew1)) hb)
          have n1_ := Aside0.mk (hbox)
          have n2_ := Aside0.mk ((by rw [hg]; exact (below_size (by repeat (with_reducible first | exact HB.out | apply below_alloc | apply pw_below_drewN | apply below_drew1))) : w.heap.size ≤ gb129))
          have n3_ := Aside0.mk ((by rw [hg]; exact (below_size (by repeat (with_reducible first | exact HB.out | apply below_alloc | apply pw_below_drewN | apply below_drew1))) : w.heap.size ≤ gb129))
          clear HB
          have HB := n0_
          have BK129 := n1_
          have GW129 := n2_
          have GE129 := n3_
          clear n0_ n1_ n2_ n3_
          clear hb hbox hg
          refine hK.out _ _ ⟨(kc_ HB hw127_0), (kc_ HB hw127_1), (kc_ HB hw127_2), (kc_ HB hw128_0), (kc_ HB hw128_1), (kc_ HB hw128_2)⟩ (fun hHeld => ?_)
          clear hK K
          refine norm_ (a' := ?_) ?_ ?_
          rotate_left
          ·
           show Act.put _ (some 3) _ = _
           simp only [Act.put, List.setIfInBounds_toArray, List.set_cons_zero, List.set_cons_succ, i64_w, i32_w]
           rfl
          refine one_ (i := 10) (N := some 4) #[true, true, true, true, true, true, true, true, true, true, true, false, false] rfl rfl (one_of HT_.out (by kernel_rfl)) (by decide) (fun K hK => ?_)
          refine box_step ?hg (N := 4) ?hd (cs := #[.int .i64 0, .string (⟨#[]⟩ : ByteArray), .slice none 0 0]) (t := 33) ?hr ?_; (case hd => rfl); (case hg => rfl); (case hr => first | (go_simp; done) | (go_simp; rfl))
          intro gb130 hg w85 hbox hb
          have n0_ := Aside0.mk (blk_below (g := gb129) (o := .cells #[.int .i64 0, .string (⟨#[]⟩ : ByteArray), .slice none 0 0] 33 (0, 0)) (by (with_reducible repeat (first | refine blk_drewN ?_ _ | refine blk_drew ?_ | refine blk_alloc ?_ _)); exact BK129.out) hb)
          have n1_ := Aside0.mk (below_step (by repeat (first | (with_reducible first | exact HB.out | apply below_alloc | apply pw_below_drewN | apply below_drew1 | refine below_set ?_ GE129.out) | exact HB.out)) hb)
          have n2_ := Aside0.mk (hbox)
          have n3_ := Aside0.mk ((by rw [hg]; exact (below_size (by repeat (first | (with_reducible first | exact HB.out | apply below_alloc | apply pw_below_drewN | apply below_drew1 | refine below_set ?_ GE129.out) | exact HB.out))) : w.heap.size ≤ gb130))
          have n4_ := Aside0.mk ((by rw [hg]; exact (below_size (by repeat (first | (with_reducible first | exact HB.out | apply below_alloc | apply pw_below_drewN | apply below_drew1 | refine below_set ?_ GE129.out) | exact HB.out))) : w.heap.size ≤ gb130))
          have n5_ := Aside0.mk ((by rw [hg]; exact Nat.ne_of_lt (blk_lt (g := gb129) (o := .cells #[.int .i64 0, .string (⟨#[]⟩ : ByteArray), .slice none 0 0] 33 (0, 0)) (by (with_reducible repeat (first | refine blk_drewN ?_ _ | refine blk_drew ?_ | refine blk_alloc ?_ _)); exact BK129.out)) : gb129 ≠ gb130))
          have n6_ := Aside0.mk ((by rw [hg]; exact Nat.ne_of_gt (blk_lt (g := gb129) (o := .cells #[.int .i64 0, .string (⟨#[]⟩ : ByteArray), .slice none 0 0] 33 (0, 0)) (by (with_reducible repeat (first | refine blk_drewN ?_ _ | refine blk_drew ?_ | refine blk_alloc ?_ _)); exact BK129.out)) : gb130 ≠ gb129))
          clear BK129
          clear HB
          have BK129 := n0_
          have HB := n1_
          have BK130 := n2_
          have GW130 := n3_
          have GE130 := n4_
          have NB129_130 := n5_
          have NB130_129 := n6_
          clear n0_ n1_ n2_ n3_ n4_ n5_ n6_
          clear hb hbox hg
          refine hK.out _ _ ⟨(kc_ HB hw127_0), (kc_ HB hw127_1), (kc_ HB hw127_2), (kc_ HB hw128_0), (kc_ HB hw128_1), (kc_ HB hw128_2)⟩ (fun hHeld => ?_)
          clear hK K
          refine norm_ (a' := ?_) ?_ ?_
          rotate_left
          ·
           show Act.put _ (some 4) _ = _
           simp only [Act.put, List.setIfInBounds_toArray, List.set_cons_zero, List.set_cons_succ, i64_w, i32_w]
           rfl
          exact norm_ (by simp only [putAll, Act.put, List.setIfInBounds_toArray, List.set_cons_zero, List.set_cons_succ]) (hCont (gb129, gb130) _ ⟨hHeld, (by (with_reducible repeat (first | refine blk_drewN ?_ _ | refine blk_drew ?_ | refine blk_alloc ?_ _)); exact BK129.out), (by (with_reducible repeat (first | refine blk_drewN ?_ _ | refine blk_drew ?_ | refine blk_alloc ?_ _)); exact BK130.out), GW129.out, GE129.out, NB130_129.out, NB129_130.out, GW130.out, GE130.out, (by repeat (first | (with_reducible first | exact HB.out | apply below_alloc | apply pw_below_drewN | apply below_drew1 | refine below_set ?_ GE129.out | refine below_set ?_ GE130.out) | exact HB.out))⟩)
         ·
          skip
          refine box_step ?hg (N := 4) ?hd (cs := #[.int .i64 0, .string (⟨#[]⟩ : ByteArray), .slice none 0 0]) (t := 33) ?hr ?_; (case hd => rfl); (case hg => rfl); (case hr => first | (go_simp; done) | (go_simp; rfl))
          intro gb130 hg w84 hbox hb
          have n0_ := Aside0.mk (below_step (by repeat (with_reducible first | exact HB.out | apply below_alloc | apply pw_below_drewN | apply below_drew1)) hb)
          have n1_ := Aside0.mk (hbox)
          have n2_ := Aside0.mk ((by rw [hg]; exact (below_size (by repeat (with_reducible first | exact HB.out | apply below_alloc | apply pw_below_drewN | apply below_drew1))) : w.heap.size ≤ gb130))
          have n3_ := Aside0.mk ((by rw [hg]; exact (below_size (by repeat (with_reducible first | exact HB.out | apply below_alloc | apply pw_below_drewN | apply below_drew1))) : w.heap.size ≤ gb130))
          clear HB
          have HB := n0_
          have BK130 := n1_
          have GW130 := n2_
          have GE130 := n3_
          clear n0_ n1_ n2_ n3_
          clear hb hbox hg
          refine hK.out _ _ ⟨(kc_ HB hw127_0), (kc_ HB hw127_1), (kc_ HB hw127_2), (kc_ HB hw128_0), (kc_ HB hw128_1), (kc_ HB hw128_2)⟩ (fun hHeld => ?_)
          clear hK K
          refine norm_ (a' := ?_) ?_ ?_
          rotate_left
          ·
           show Act.put _ (some 4) _ = _
           simp only [Act.put, List.setIfInBounds_toArray, List.set_cons_zero, List.set_cons_succ, i64_w, i32_w]
           rfl
          refine one_ (i := 9) (N := some 3) #[true, true, true, true, true, true, true, true, true, true, true, false, false] rfl rfl (one_of HT_.out (by kernel_rfl)) (by decide) (fun K hK => ?_)
          refine box_step ?hg (N := 3) ?hd (cs := #[.int .i64 0, .string (⟨#[]⟩ : ByteArray), .slice none 0 0]) (t := 33) ?hr ?_; (case hd => rfl); (case hg => rfl); (case hr => first | (go_simp; done) | (go_simp; rfl))
          intro gb129 hg w85 hbox hb
          have n0_ := Aside0.mk (blk_below (g := gb130) (o := .cells #[.int .i64 0, .string (⟨#[]⟩ : ByteArray), .slice none 0 0] 33 (0, 0)) (by (with_reducible repeat (first | refine blk_drewN ?_ _ | refine blk_drew ?_ | refine blk_alloc ?_ _)); exact BK130.out) hb)
          have n1_ := Aside0.mk (below_step (by repeat (first | (with_reducible first | exact HB.out | apply below_alloc | apply pw_below_drewN | apply below_drew1 | refine below_set ?_ GE130.out) | exact HB.out)) hb)
          have n2_ := Aside0.mk (hbox)
          have n3_ := Aside0.mk ((by rw [hg]; exact (below_size (by repeat (first | (with_reducible first | exact HB.out | apply below_alloc | apply pw_below_drewN | apply below_drew1 | refine below_set ?_ GE130.out) | exact HB.out))) : w.heap.size ≤ gb129))
          have n4_ := Aside0.mk ((by rw [hg]; exact (below_size (by repeat (first | (with_reducible first | exact HB.out | apply below_alloc | apply pw_below_drewN | apply below_drew1 | refine below_set ?_ GE130.out) | exact HB.out))) : w.heap.size ≤ gb129))
          have n5_ := Aside0.mk ((by rw [hg]; exact Nat.ne_of_lt (blk_lt (g := gb130) (o := .cells #[.int .i64 0, .string (⟨#[]⟩ : ByteArray), .slice none 0 0] 33 (0, 0)) (by (with_reducible repeat (first | refine blk_drewN ?_ _ | refine blk_drew ?_ | refine blk_alloc ?_ _)); exact BK130.out)) : gb130 ≠ gb129))
          have n6_ := Aside0.mk ((by rw [hg]; exact Nat.ne_of_gt (blk_lt (g := gb130) (o := .cells #[.int .i64 0, .string (⟨#[]⟩ : ByteArray), .slice none 0 0] 33 (0, 0)) (by (with_reducible repeat (first | refine blk_drewN ?_ _ | refine blk_drew ?_ | refine blk_alloc ?_ _)); exact BK130.out)) : gb129 ≠ gb130))
          clear BK130
          clear HB
          have BK130 := n0_
          have HB := n1_
          have BK129 := n2_
          have GW129 := n3_
          have GE129 := n4_
          have NB130_129 := n5_
          have NB129_130 := n6_
          clear n0_ n1_ n2_ n3_ n4_ n5_ n6_
          clear hb hbox hg
          refine hK.out _ _ ⟨(kc_ HB hw127_0), (kc_ HB hw127_1), (kc_ HB hw127_2), (kc_ HB hw128_0), (kc_ HB hw128_1), (kc_ HB hw128_2)⟩ (fun hHeld => ?_)
          clear hK K
          refine norm_ (a' := ?_) ?_ ?_
          rotate_left
          ·
           show Act.put _ (some 3) _ = _
           simp only [Act.put, List.setIfInBounds_toArray, List.set_cons_zero, List.set_cons_succ, i64_w, i32_w]
           rfl
          exact norm_ (by simp only [putAll, Act.put, List.setIfInBounds_toArray, List.set_cons_zero, List.set_cons_succ]) (hCont (gb129, gb130) _ ⟨hHeld, (by (with_reducible repeat (first | refine blk_drewN ?_ _ | refine blk_drew ?_ | refine blk_alloc ?_ _)); exact BK129.out), (by (with_reducible repeat (first | refine blk_drewN ?_ _ | refine blk_drew ?_ | refine blk_alloc ?_ _)); exact BK130.out), GW129.out, GE129.out, NB130_129.out, NB129_130.out, GW130.out, GE130.out, (by repeat (first | (with_reducible first | exact HB.out | apply below_alloc | apply pw_below_drewN | apply below_drew1 | refine below_set ?_ GE130.out | refine below_set ?_ GE129.out) | exact HB.out))⟩)
        rintro ⟨gb129, gb130⟩ w86 ⟨hS_, h0_, h1_, h2_, h3_, h4_, h5_, h6_, h7_, h8_⟩
        have n0_ : Aside0 (w86.heap[gb129]? = some (.cells #[.int .i64 0, .string (⟨#[]⟩ : ByteArray), .slice none 0 0] 33 (0, 0))) := ⟨h0_⟩
        have n1_ : Aside0 (w86.heap[gb130]? = some (.cells #[.int .i64 0, .string (⟨#[]⟩ : ByteArray), .slice none 0 0] 33 (0, 0))) := ⟨h1_⟩
        have n2_ : Aside0 (w.heap.size ≤ gb129) := ⟨h2_⟩
        have n3_ : Aside0 (w.heap.size ≤ gb129) := ⟨h3_⟩
        have n4_ : Aside0 (gb130 ≠ gb129) := ⟨h4_⟩
        have n5_ : Aside0 (gb129 ≠ gb130) := ⟨h5_⟩
        have n6_ : Aside0 (w.heap.size ≤ gb130) := ⟨h6_⟩
        have n7_ : Aside0 (w.heap.size ≤ gb130) := ⟨h7_⟩
        have n8_ : Aside0 (Below w.heap.size w w86) := ⟨h8_⟩
        clear HB
        clear h0_ h1_ h2_ h3_ h4_ h5_ h6_ h7_ h8_
        have BK129 := n0_
        have BK130 := n1_
        have GW129 := n2_
        have GE129 := n3_
        have NB130_129 := n4_
        have NB129_130 := n5_
        have GW130 := n6_
        have GE130 := n7_
        have HB := n8_
        clear n0_ n1_ n2_ n3_ n4_ n5_ n6_ n7_ n8_
        have hHeld : w86.cell? ad127 = some (.int .i64 ((rd_T33 l0 0).f0)) ∧ w86.cell? ⟨ad127.block, ad127.off + 1, none⟩ = some (.string ((rd_T33 l0 0).f1)) ∧ w86.cell? ⟨ad127.block, ad127.off + 2, none⟩ = some (.slice A127_2 ((rd_T33 l0 0).f2).length c127_2) ∧ w86.cell? (ad127.add (((ji7)).toNat * 3)) = some (.int .i64 ((rd_T33 l0 (ji7)).f0)) ∧ w86.cell? ⟨(ad127.add (((ji7)).toNat * 3)).block, (ad127.add (((ji7)).toNat * 3)).off + 1, none⟩ = some (.string ((rd_T33 l0 (ji7)).f1)) ∧ w86.cell? ⟨(ad127.add (((ji7)).toNat * 3)).block, (ad127.add (((ji7)).toNat * 3)).off + 2, none⟩ = some (.slice A128_2 ((rd_T33 l0 (ji7)).f2).length c128_2) := hS_
        refine norm_ (a' := ?_) ?_ ?_
        rotate_left
        ·
         simp only [putAll, Act.put, List.setIfInBounds_toArray, List.set_cons_zero, List.set_cons_succ]
         rfl
        refine one_ (i := 11) (N := none) #[true, true, true, true, true, true, true, true, true, true, true, true, false] rfl rfl (one_of HT_.out (by kernel_rfl)) (by decide) (fun K hK => ?_)
        have hs87 : w86.cell? ⟨gb129, 0, none⟩ = some (.int .i64 0) := (blk_cell BK129.out 0).trans rfl
        have hfs87 := blk_frozen BK129.out 0
        have hns87_1 := NB130_129.out
        have hms87_1 := NB129_130.out
        have hs88 : w86.cell? ⟨gb129, 1, none⟩ = some (.string (⟨#[]⟩ : ByteArray)) := (blk_cell BK129.out 1).trans rfl
        have hfs88 := blk_frozen BK129.out 1
        have hns88_1 := NB130_129.out
        have hms88_1 := NB129_130.out
        have hs89 : w86.cell? ⟨gb129, 2, none⟩ = some (.slice none 0 0) := (blk_cell BK129.out 2).trans rfl
        have hfs89 := blk_frozen BK129.out 2
        have hns89_1 := NB130_129.out
        have hms89_1 := NB129_130.out
        refine skip_ (w1 := ?_) (by rfl) rfl ?_ ?_
        rotate_left
        ·
         go_simp
         rfl
        refine hK.out _ _ ⟨((cf_ hw127_0 GW129).trans (((cf_ hw127_0 GW129).trans (((cf_ hw127_0 GW129).trans (hHeld.1)))))), ((cf_ hw127_1 GW129).trans (((cf_ hw127_1 GW129).trans (((cf_ hw127_1 GW129).trans (hHeld.2.1)))))), ((cf_ hw127_2 GW129).trans (((cf_ hw127_2 GW129).trans (((cf_ hw127_2 GW129).trans (hHeld.2.2.1)))))), ((cf_ hw128_0 GW129).trans (((cf_ hw128_0 GW129).trans (((cf_ hw128_0 GW129).trans (hHeld.2.2.2.1)))))), ((cf_ hw128_1 GW129).trans (((cf_ hw128_1 GW129).trans (((cf_ hw128_1 GW129).trans (hHeld.2.2.2.2.1)))))), ((cf_ hw128_2 GW129).trans (((cf_ hw128_2 GW129).trans (((cf_ hw128_2 GW129).trans (hHeld.2.2.2.2.2))))))⟩ (fun hHeld => ?_)
        clear hK K
        refine one_ (i := 12) (N := none) #[true, true, true, true, true, true, true, true, true, true, true, true, true] rfl rfl (one_of HT_.out (by kernel_rfl)) (by decide) (fun K hK => ?_)
        have hs90 : w86.cell? ⟨gb130, 0, none⟩ = some (.int .i64 0) := (blk_cell BK130.out 0).trans rfl
        have hfs90 := blk_frozen BK130.out 0
        have hns90_0 := NB129_130.out
        have hms90_0 := NB130_129.out
        have hs91 : w86.cell? ⟨gb130, 1, none⟩ = some (.string (⟨#[]⟩ : ByteArray)) := (blk_cell BK130.out 1).trans rfl
        have hfs91 := blk_frozen BK130.out 1
        have hns91_0 := NB129_130.out
        have hms91_0 := NB130_129.out
        have hs92 : w86.cell? ⟨gb130, 2, none⟩ = some (.slice none 0 0) := (blk_cell BK130.out 2).trans rfl
        have hfs92 := blk_frozen BK130.out 2
        have hns92_0 := NB129_130.out
        have hms92_0 := NB130_129.out
        refine skip_ (w1 := ?_) (by rfl) rfl ?_ ?_
        rotate_left
        ·
         go_simp
         rfl
        refine hK.out _ _ ⟨((cf_ hw127_0 GW130).trans (((cf_ hw127_0 GW130).trans (((cf_ hw127_0 GW130).trans (hHeld.1)))))), ((cf_ hw127_1 GW130).trans (((cf_ hw127_1 GW130).trans (((cf_ hw127_1 GW130).trans (hHeld.2.1)))))), ((cf_ hw127_2 GW130).trans (((cf_ hw127_2 GW130).trans (((cf_ hw127_2 GW130).trans (hHeld.2.2.1)))))), ((cf_ hw128_0 GW130).trans (((cf_ hw128_0 GW130).trans (((cf_ hw128_0 GW130).trans (hHeld.2.2.2.1)))))), ((cf_ hw128_1 GW130).trans (((cf_ hw128_1 GW130).trans (((cf_ hw128_1 GW130).trans (hHeld.2.2.2.2.1)))))), ((cf_ hw128_2 GW130).trans (((cf_ hw128_2 GW130).trans (((cf_ hw128_2 GW130).trans (hHeld.2.2.2.2.2))))))⟩ (fun hHeld => ?_)
        clear hK K
        refine done_ (done_of HT_.out (by kernel_rfl)) ?_
        have hnb93 := NB129_130.out
        have hnc93 := NB130_129.out
        have hcz94_0 : w86.cell? ⟨gb129, 0, none⟩ = some (.int .i64 0) := (blk_cell BK129.out 0).trans rfl
        have hcz94_1 : w86.cell? ⟨gb129, 1, none⟩ = some (.string (⟨#[]⟩ : ByteArray)) := (blk_cell BK129.out 1).trans rfl
        have hcz94_2 : w86.cell? ⟨gb129, 2, none⟩ = some (.slice none 0 0) := (blk_cell BK129.out 2).trans rfl
        have hfz94_0 := blk_frozen BK129.out 0
        have hfz94_1 := blk_frozen BK129.out 1
        have hfz94_2 := blk_frozen BK129.out 2
        have hcz95_0 : w86.cell? ⟨gb130, 0, none⟩ = some (.int .i64 0) := (blk_cell BK130.out 0).trans rfl
        have hcz95_1 : w86.cell? ⟨gb130, 1, none⟩ = some (.string (⟨#[]⟩ : ByteArray)) := (blk_cell BK130.out 1).trans rfl
        have hcz95_2 : w86.cell? ⟨gb130, 2, none⟩ = some (.slice none 0 0) := (blk_cell BK130.out 2).trans rfl
        have hfz95_0 := blk_frozen BK130.out 0
        have hfz95_1 := blk_frozen BK130.out 1
        have hfz95_2 := blk_frozen BK130.out 2
        try go_wp2
        go_ret
        exact ⟨by first | rfl | (simp [errW_none, errW_some] <;> rfl) | (simp only [← hji7]; first | rfl | (simp [errW_none, errW_some] <;> rfl)) | (simp [*, errW_none, errW_some] <;> rfl), by repeat (first | (with_reducible first | exact HB.out | apply below_alloc | apply pw_below_drewN | apply below_drew1 | refine below_set ?_ GE129.out | refine below_set ?_ GE130.out) | exact HB.out)⟩
     ·
      rw [if_neg c9] at H
      exact absurd H (by simp)
    ·
     rw [if_neg c8] at H
     exact absurd H (by simp)
   ·
    rw [if_neg c6] at H
    exact absurd H (by simp)
 ·
  replace c3 := Bool.eq_false_iff.mpr c3
  subst c3
  have H1 : (some false) = some r := by rw [if_neg (show ¬ (false = true) by decide)] at H; exact H
  clear H
  have H := H1
  clear H1
  obtain rfl := Option.some.inj H
  go_enter Tryd.func40, Tryd.ntmps40
  go_wp2_with (first | ((with_reducible refine gate_callee (f := 55) rfl ?_); refine goesL_ (some 7) rfl rfl Tryd.func55 (by kernel_rfl) rfl #[.agg #[.bool false, .bool false], .slice A0 l0.length c0] rfl (by (try simp only [List.map_toArray, List.map_cons, List.map_nil]); first | done | rfl | (simp only [List.length_drop, List.length_take]; rfl)) ?_; (with_reducible refine (span_within_all.calls k false false _ _ l0 false _ ?side3 ?side1 ?side2 A2.out).mono ?_); (case side1 => repeat (first | exact HR0.out | (with_reducible refine Kd.C_alloc ?_ _) | (with_reducible refine Kd.C_drewN ?_ _) | (with_reducible refine Kd.C_drew ?_))); (case side2 => exact HC0.out); (case side3 => first | exact HT.out | exact Tabs.at HT.out (by repeat (with_reducible first | exact HB.out | apply below_alloc | apply pw_below_drewN | apply below_drew1))); rintro e w96 ⟨rfl, hb⟩; refine ⟨_, rfl, ?_⟩; have n0_ := Aside0.mk (below_step (by repeat (with_reducible first | exact HB.out | apply below_alloc | apply pw_below_drewN | apply below_drew1)) hb); clear HB; have HB := n0_; clear n0_; (try clear hb); (try clear hb2); (try clear hk); (try clear hi)))
  go_ret
  exact ⟨by first | rfl | (simp [errW_none, errW_some] <;> rfl) | (simp [*, errW_none, errW_some] <;> rfl), by repeat (with_reducible first | exact HB.out | apply below_alloc | apply pw_below_drewN | apply below_drew1)⟩


end Go.Proofs.YtbbkjdcpmhpkjaaDoor.G
