-- Written by a program of this session (wip/mkprint.py over the kit's print) out of the translation; Lean checks it.
import Derived.Test.YtbbkjdcpmhpkjaaDoorX3
import Derived.Test.YtbbkjdcpmhpkjaaDoorX0
import Derived.Test.YtbbkjdcpmhpkjaaDoorX2
import Derived.Test.YtbbkjdcpmhpkjaaDoorGivenWords
namespace Go.Proofs.YtbbkjdcpmhpkjaaDoor.X
open Go.RowKit Go.Proofs.YtbbkjdcpmhpkjaaDoor.G Go.Proofs.YtbbkjdcpmhpkjaaDoorW.PrintWords Go.Proofs.YtbbkjdcpmhpkjaaDoorW.PrintLast Go.Proofs.YtbbkjdcpmhpkjaaDoorW.PrintMore
attribute [local go_sem] max2_int min2_int max_two min_two max_three min_three max_four min_four   -- for this text's walks alone
set_option linter.unusedVariables false
set_option linter.unusedSimpArgs false

/-! ### emendationref10_spend: function 19 -/
mutual
def emendationref10_spend.l0 : Nat → List (S28) → Int → Int → Int → Int → Int → Option (Int)
 | 0, _, _, _, _, _, _ => none
 | k + 1, x0, x1, x2, x7, x11, x12 => if x12 < x11 then (if x1 = 0 then (emendationref10_spend.j1 k x0 x1 x2 x7 x12 x11 x12 true) else (emendationref10_spend.j1 k x0 x1 x2 x7 x12 x11 x12 (decide (x7 ≥ x2)))) else (some x7)
def emendationref10_spend.j1 : Nat → List (S28) → Int → Int → Int → Int → Int → Int → Bool → Option (Int)
 | 0, _, _, _, _, _, _, _, _ => none
 | k + 1, x0, x1, x2, x7, x8, x11, x12, x21 => if x21 = true then (some (wrap64 (x7 + 1000000))) else (if 0 ≤ x8 then (if x8 < (x0.length : Int) then ((emendationref07_Size.f k ((rd_T28 x0 x8).f4) 30).bind fun t155 => (emendationref10_spend.l1 k x0 x1 x2 (wrap64 ((wrap64 ((wrap64 (x7 + 1)) + (((rd_T28 x0 x8).f2).size : Int))) + t155)) x8 x11 x12 (((rd_T28 x0 x8).f3).length : Int) 0)) else (none)) else (none))
def emendationref10_spend.l1 : Nat → List (S28) → Int → Int → Int → Int → Int → Int → Int → Int → Option (Int)
 | 0, _, _, _, _, _, _, _, _, _ => none
 | k + 1, x0, x1, x2, x7, x8, x11, x12, x45, x46 => if x46 < x45 then (if 0 ≤ x8 then (if x8 < (x0.length : Int) then (if 0 ≤ x46 then (if x46 < (((rd_T28 x0 x8).f3).length : Int) then (emendationref10_spend.l1 k x0 x1 x2 (wrap64 ((wrap64 (x7 + 1)) + ((rdOf ByteArray.empty ((rd_T28 x0 x8).f3) x46).size : Int))) x8 x11 x12 x45 (wrap64 (x46 + 1))) else (none)) else (none)) else (none)) else (none)) else (if 0 ≤ x8 then (if x8 < (x0.length : Int) then ((emendationref10_spend.f k ((rd_T28 x0 x8).f5) (wrap64 (x1 - 1)) (wrap64 (x2 - x7))).bind fun t160 => (emendationref10_spend.l0 k x0 x1 x2 (wrap64 (x7 + t160)) x11 (wrap64 (x12 + 1)))) else (none)) else (none))
def emendationref10_spend.f : Nat → List (S28) → Int → Int → Option (Int)
 | 0, _, _, _ => none
 | k + 1, l0, a1, a2 => emendationref10_spend.l0 k l0 a1 a2 0 (l0.length : Int) 0
end
set_option maxHeartbeats 8000000 in
set_option maxRecDepth 100000 in
theorem emendationref10_spend.calls (k : Nat) : ∀ (A0 : Option Addr) (c0 : Nat) (l0 : List (S28)) (a1 : Int) (a2 : Int) (r : Int) (w : World) (hr0 : Kd.C k28 w A0 l0.length l0) (hc0 : l0.length ≤ c0) (h : emendationref10_spend.f k l0 a1 a2 = some r),
  Calls Tryd.prog 19 #[.slice A0 l0.length c0, .int .i64 a1, .int .i64 a2] w fun e w' => e = .returned (.int .i64 r) ∧ Drawn0 w w' := by
 induction k using Nat.strongRecOn with
 | _ k ih =>
 intro A0 c0 l0 a1 a2 r w hr0 hc0 h
 cases k with
 | zero => exact absurd h (by simp [emendationref10_spend.f])
 | succ k =>
 simp only [emendationref10_spend.f] at h
 have HR0 := Aside0.mk hr0
 have HC0 := Aside0.mk hc0
 clear hr0 hc0
 have H : (emendationref10_spend.l0 k l0 a1 a2 0 (l0.length : Int) 0) = some r := h
 clear h
 have H' := Aside0.mk H
 clear H
 go_enter Tryd.func19, Tryd.ntmps19
 go_wp2
 repeat (go_quiet (fail); try go_wp2)
 go_loopg [7, 12] k (fun kq v7 v12 w' => ∃ (x7_1 : Int) (x12_1 : Int), v7 = .int .i64 x7_1 ∧ v12 = .int .i64 x12_1 ∧ Aside0 (emendationref10_spend.l0 kq l0 a1 a2 x7_1 (l0.length : Int) x12_1 = some r) ∧ Aside0 (kq ≤ k) ∧ Drawn0 w w')
 case atStart => exact ⟨(0), (0), (by first | rfl | (simp; done) | (simp [*]; done) | (simp [bne, beq_nil_E]; done)), (by first | rfl | (simp; done) | (simp [*]; done) | (simp [bne, beq_nil_E]; done)), H', ⟨Nat.le_refl _⟩, by repeat (first | exact Drawn0.refl _ | apply Drawn0.step)⟩
 case round =>
  clear H'
  try clear c1
  try clear p2
  obtain ⟨x7_1, x12_1, rfl, rfl, HA, HK1, ⟨m1, rfl⟩⟩ := hrel
  cases gk with
  | zero => exact absurd HA.out (by simp [emendationref10_spend.l0])
  | succ k1 =>
   have H := HA.out
   clear HA
   simp only [emendationref10_spend.l0] at H
   by_cases c4 : x12_1 < (l0.length : Int)
   ·
    rw [if_pos c4] at H
    have c4b0 : decide (x12_1 < (l0.length : Int)) = true := decide_eq_true c4
    clear c4
    have HC5 := Aside0.mk H
    clear H
    go_upto_region 5 with (fail)
    repeat (go_quiet (fail); go_upto_region 5 with (fail))
    go_cut [21] (fun v21 wc => ∃ (kq : Nat) (x21_4 : Bool), v21 = .bool x21_4 ∧ Aside0 (emendationref10_spend.j1 kq l0 a1 a2 x7_1 x12_1 (l0.length : Int) x12_1 x21_4 = some r) ∧ Aside0 (kq ≤ k1) ∧ Drawn0 w wc)
    case first =>
     have H := HC5.out
     clear HC5
     by_cases c6 : a1 = 0
     ·
      rw [if_pos c6] at H
      have c6b0 : (a1 == 0) = true := beq_iff_eq.mpr c6
      have c6b1 : (a1 != 0) = false := bne_eq_false_iff_eq.mpr c6
      clear c6
      (first | rw [c6b0] | (simp only [i64_w, i32_w]; rw [c6b0]) | skip)
      have H' := Aside0.mk H
      clear H
      go_wp2
      repeat (go_quiet (fail); try go_wp2)
      go_meet
      case rel => exact ⟨_, (true), (by first | rfl | (simp; done) | (simp [*]; done) | (simp [bne, beq_nil_E]; done)), H', ⟨by have := HK1.out; first | omega | exact Nat.le_refl _⟩, by repeat (first | exact Drawn0.refl _ | apply Drawn0.step)⟩
     ·
      rw [if_neg c6] at H
      have c6b0 : (a1 == 0) = false := beq_eq_false_iff_ne.mpr c6
      have c6b1 : (a1 != 0) = true := bne_iff_ne.mpr c6
      (first | rw [c6b0] | (simp only [i64_w, i32_w]; rw [c6b0]) | skip)
      have H' := Aside0.mk H
      clear H
      go_wp2
      repeat (go_quiet (fail); try go_wp2)
      go_meet
      case rel => exact ⟨_, (decide (x7_1 ≥ a2)), (by first | rfl | (simp; done) | (simp [*]; done) | (simp [bne, beq_nil_E]; done)), H', ⟨by have := HK1.out; first | omega | exact Nat.le_refl _⟩, by repeat (first | exact Drawn0.refl _ | apply Drawn0.step)⟩
    case rest =>
     clear HC5
     try clear c1
     try clear p2
     try clear c4
     try clear c4b0
     try clear c6
     try clear c6b0
     try clear c6b1
     try clear p2
     obtain ⟨kq, x21_4, rfl, HA, HJ4, ⟨mc4, rfl⟩⟩ := hcut
     cases kq with
     | zero => exact absurd HA.out (by simp [emendationref10_spend.j1])
     | succ kj4 =>
      have H := HA.out
      clear HA
      simp only [emendationref10_spend.j1] at H
      by_cases c7 : x21_4 = true
      ·
       subst c7
       have H1 : (some (wrap64 (x7_1 + 1000000))) = some r := by rw [if_pos rfl] at H; exact H
       clear H
       have H := H1
       clear H1
       obtain rfl := Option.some.inj H
       go_wp2
       repeat (go_quiet (fail); try go_wp2)
       go_ret
       exact ⟨by first | rfl | (simp; done) | (simp [*]; done) | (simp [bne, beq_nil_E]; done), by repeat (first | exact Drawn0.refl _ | apply Drawn0.step)⟩
      ·
       replace c7 := Bool.eq_false_iff.mpr c7
       subst c7
       have H1 : (if 0 ≤ x12_1 then (if x12_1 < (l0.length : Int) then ((emendationref07_Size.f kj4 ((rd_T28 l0 x12_1).f4) 30).bind fun t155 => (emendationref10_spend.l1 kj4 l0 a1 a2 (wrap64 ((wrap64 ((wrap64 (x7_1 + 1)) + (((rd_T28 l0 x12_1).f2).size : Int))) + t155)) x12_1 (l0.length : Int) x12_1 (((rd_T28 l0 x12_1).f3).length : Int) 0)) else (none)) else (none)) = some r := by rw [if_neg (show ¬ (false = true) by decide)] at H; exact H
       clear H
       have H := H1
       clear H1
       by_cases c8 : 0 ≤ x12_1
       ·
        rw [if_pos c8] at H
        have c8b0 : decide (0 ≤ x12_1) = true := decide_eq_true c8
        clear c8
        by_cases c9 : x12_1 < (l0.length : Int)
        ·
         rw [if_pos c9] at H
         have c9b0 : decide (x12_1 < (l0.length : Int)) = true := decide_eq_true c9
         clear c9
         replace H := Option.bind_eq_some_iff.mp H
         obtain ⟨t155, A100, H⟩ := H
         replace H : (emendationref10_spend.l1 kj4 l0 a1 a2 (wrap64 ((wrap64 ((wrap64 (x7_1 + 1)) + (((rd_T28 l0 x12_1).f2).size : Int))) + t155)) x12_1 (l0.length : Int) x12_1 (((rd_T28 l0 x12_1).f3).length : Int) 0) = some r := H
         have A10 := Aside0.mk A100
         clear A100
         have H' := Aside0.mk H
         clear H
         have p153 : 0 ≤ (x12_1 : Int) := of_decide_eq_true (by first | (with_reducible assumption) | assumption)
         have q153 : x12_1 < (l0.length : Int) := of_decide_eq_true (by first | (with_reducible assumption) | assumption)
         obtain ⟨ad153, A153_3, c153_3, A153_4, c153_4, A153_5, c153_5, e153, hx153_0, hx153_1, hx153_2, hx153_3, hx153_4, hx153_5, hl153_3, hi153_3, hl153_4, hi153_4, hl153_5, hi153_5⟩ := at_T28 HR0.out x12_1 p153 q153
         cases e153
         have HR153_3 := Aside0.mk hi153_3
         have HC153_3 := Aside0.mk hl153_3
         clear hi153_3 hl153_3
         have HR153_4 := Aside0.mk hi153_4
         have HC153_4 := Aside0.mk hl153_4
         clear hi153_4 hl153_4
         have HR153_5 := Aside0.mk hi153_5
         have HC153_5 := Aside0.mk hl153_5
         clear hi153_5 hl153_5
         replace p153 := eq_true p153
         replace q153 := eq_true q153
         have p154 : 0 ≤ (x12_1 : Int) := of_decide_eq_true (by first | (with_reducible assumption) | assumption)
         have q154 : x12_1 < (l0.length : Int) := of_decide_eq_true (by first | (with_reducible assumption) | assumption)
         obtain ⟨ad154, A154_3, c154_3, A154_4, c154_4, A154_5, c154_5, e154, hx154_0, hx154_1, hx154_2, hx154_3, hx154_4, hx154_5, hl154_3, hi154_3, hl154_4, hi154_4, hl154_5, hi154_5⟩ := at_T28 HR0.out x12_1 p154 q154
         obtain rfl : ad153 = ad154 := (by injection e154)
         have HR154_3 := Aside0.mk hi154_3
         have HC154_3 := Aside0.mk hl154_3
         clear hi154_3 hl154_3
         have HR154_4 := Aside0.mk hi154_4
         have HC154_4 := Aside0.mk hl154_4
         clear hi154_4 hl154_4
         have HR154_5 := Aside0.mk hi154_5
         have HC154_5 := Aside0.mk hl154_5
         clear hi154_5 hl154_5
         replace p154 := eq_true p154
         replace q154 := eq_true q154
         have ea_ := Option.some.inj (hx153_3.symm.trans hx154_3)
         injection ea_ with ea_ en_ ec_
         subst ea_
         subst ec_
         clear en_
         have ea_ := Option.some.inj (hx153_4.symm.trans hx154_4)
         injection ea_ with ea_ en_ ec_
         subst ea_
         subst ec_
         clear en_
         have ea_ := Option.some.inj (hx153_5.symm.trans hx154_5)
         injection ea_ with ea_ en_ ec_
         subst ea_
         subst ec_
         clear en_
         go_wp2_with (first | (go_at_call 24; (with_reducible refine (emendationref07_Size.calls kj4 _ _ ((rd_T28 l0 x12_1).f4) 30 t155 _ ?side1 ?side2 A10.out).mono ?_); (case side1 => repeat (first | exact HR154_4.out | (with_reducible refine Kd.C_alloc ?_ _) | (with_reducible refine Kd.C_drewN ?_ _) | (with_reducible refine Kd.C_drew ?_))); (case side2 => exact HC154_4.out); rintro e w' ⟨rfl, ⟨nd, rfl⟩⟩; (try first | exact ⟨rfl, _, World.drewN_drewN _ _ _⟩ | exact ⟨rfl, _, Eq.trans (World.drewN_drewN _ _ _) (congrArg (World.drewN _) (Nat.add_assoc _ _ _))⟩); have p156 : 0 ≤ (x12_1 : Int) := of_decide_eq_true (by first | (with_reducible assumption) | assumption); have q156 : x12_1 < (l0.length : Int) := of_decide_eq_true (by first | (with_reducible assumption) | assumption); obtain ⟨ad156, A156_3, c156_3, A156_4, c156_4, A156_5, c156_5, e156, hx156_0, hx156_1, hx156_2, hx156_3, hx156_4, hx156_5, hl156_3, hi156_3, hl156_4, hi156_4, hl156_5, hi156_5⟩ := at_T28 HR0.out x12_1 p156 q156; obtain rfl : ad153 = ad156 := (by injection e156); have HR156_3 := Aside0.mk hi156_3; have HC156_3 := Aside0.mk hl156_3; clear hi156_3 hl156_3; have HR156_4 := Aside0.mk hi156_4; have HC156_4 := Aside0.mk hl156_4; clear hi156_4 hl156_4; have HR156_5 := Aside0.mk hi156_5; have HC156_5 := Aside0.mk hl156_5; clear hi156_5 hl156_5; replace p156 := eq_true p156; replace q156 := eq_true q156; have ea_ := Option.some.inj (hx153_3.symm.trans hx156_3); injection ea_ with ea_ en_ ec_; subst ea_; subst ec_; clear en_; have ea_ := Option.some.inj (hx153_4.symm.trans hx156_4); injection ea_ with ea_ en_ ec_; subst ea_; subst ec_; clear en_; have ea_ := Option.some.inj (hx153_5.symm.trans hx156_5); injection ea_ with ea_ en_ ec_; subst ea_; subst ec_; clear en_))
         repeat (go_quiet (first | (go_at_call 24; (with_reducible refine (emendationref07_Size.calls kj4 _ _ ((rd_T28 l0 x12_1).f4) 30 t155 _ ?side1 ?side2 A10.out).mono ?_); (case side1 => repeat (first | exact HR154_4.out | (with_reducible refine Kd.C_alloc ?_ _) | (with_reducible refine Kd.C_drewN ?_ _) | (with_reducible refine Kd.C_drew ?_))); (case side2 => exact HC154_4.out); rintro e w' ⟨rfl, ⟨nd, rfl⟩⟩; (try first | exact ⟨rfl, _, World.drewN_drewN _ _ _⟩ | exact ⟨rfl, _, Eq.trans (World.drewN_drewN _ _ _) (congrArg (World.drewN _) (Nat.add_assoc _ _ _))⟩); have p156 : 0 ≤ (x12_1 : Int) := of_decide_eq_true (by first | (with_reducible assumption) | assumption); have q156 : x12_1 < (l0.length : Int) := of_decide_eq_true (by first | (with_reducible assumption) | assumption); obtain ⟨ad156, A156_3, c156_3, A156_4, c156_4, A156_5, c156_5, e156, hx156_0, hx156_1, hx156_2, hx156_3, hx156_4, hx156_5, hl156_3, hi156_3, hl156_4, hi156_4, hl156_5, hi156_5⟩ := at_T28 HR0.out x12_1 p156 q156; obtain rfl : ad153 = ad156 := (by injection e156); have HR156_3 := Aside0.mk hi156_3; have HC156_3 := Aside0.mk hl156_3; clear hi156_3 hl156_3; have HR156_4 := Aside0.mk hi156_4; have HC156_4 := Aside0.mk hl156_4; clear hi156_4 hl156_4; have HR156_5 := Aside0.mk hi156_5; have HC156_5 := Aside0.mk hl156_5; clear hi156_5 hl156_5; replace p156 := eq_true p156; replace q156 := eq_true q156; have ea_ := Option.some.inj (hx153_3.symm.trans hx156_3); injection ea_ with ea_ en_ ec_; subst ea_; subst ec_; clear en_; have ea_ := Option.some.inj (hx153_4.symm.trans hx156_4); injection ea_ with ea_ en_ ec_; subst ea_; subst ec_; clear en_; have ea_ := Option.some.inj (hx153_5.symm.trans hx156_5); injection ea_ with ea_ en_ ec_; subst ea_; subst ec_; clear en_)); try go_wp2_with (first | (go_at_call 24; (with_reducible refine (emendationref07_Size.calls kj4 _ _ ((rd_T28 l0 x12_1).f4) 30 t155 _ ?side1 ?side2 A10.out).mono ?_); (case side1 => repeat (first | exact HR154_4.out | (with_reducible refine Kd.C_alloc ?_ _) | (with_reducible refine Kd.C_drewN ?_ _) | (with_reducible refine Kd.C_drew ?_))); (case side2 => exact HC154_4.out); rintro e w' ⟨rfl, ⟨nd, rfl⟩⟩; (try first | exact ⟨rfl, _, World.drewN_drewN _ _ _⟩ | exact ⟨rfl, _, Eq.trans (World.drewN_drewN _ _ _) (congrArg (World.drewN _) (Nat.add_assoc _ _ _))⟩); have p156 : 0 ≤ (x12_1 : Int) := of_decide_eq_true (by first | (with_reducible assumption) | assumption); have q156 : x12_1 < (l0.length : Int) := of_decide_eq_true (by first | (with_reducible assumption) | assumption); obtain ⟨ad156, A156_3, c156_3, A156_4, c156_4, A156_5, c156_5, e156, hx156_0, hx156_1, hx156_2, hx156_3, hx156_4, hx156_5, hl156_3, hi156_3, hl156_4, hi156_4, hl156_5, hi156_5⟩ := at_T28 HR0.out x12_1 p156 q156; obtain rfl : ad153 = ad156 := (by injection e156); have HR156_3 := Aside0.mk hi156_3; have HC156_3 := Aside0.mk hl156_3; clear hi156_3 hl156_3; have HR156_4 := Aside0.mk hi156_4; have HC156_4 := Aside0.mk hl156_4; clear hi156_4 hl156_4; have HR156_5 := Aside0.mk hi156_5; have HC156_5 := Aside0.mk hl156_5; clear hi156_5 hl156_5; replace p156 := eq_true p156; replace q156 := eq_true q156; have ea_ := Option.some.inj (hx153_3.symm.trans hx156_3); injection ea_ with ea_ en_ ec_; subst ea_; subst ec_; clear en_; have ea_ := Option.some.inj (hx153_4.symm.trans hx156_4); injection ea_ with ea_ en_ ec_; subst ea_; subst ec_; clear en_; have ea_ := Option.some.inj (hx153_5.symm.trans hx156_5); injection ea_ with ea_ en_ ec_; subst ea_; subst ec_; clear en_)))
         go_loopg [7, 46] kj4 (fun kq v7 v46 w' => ∃ (x7_3 : Int) (x46_3 : Int), v7 = .int .i64 x7_3 ∧ v46 = .int .i64 x46_3 ∧ Aside0 (emendationref10_spend.l1 kq l0 a1 a2 x7_3 x12_1 (l0.length : Int) x12_1 (((rd_T28 l0 x12_1).f3).length : Int) x46_3 = some r) ∧ Aside0 (kq ≤ kj4) ∧ Drawn0 w w')
         case atStart => exact ⟨(wrap64 ((wrap64 ((wrap64 (x7_1 + 1)) + (((rd_T28 l0 x12_1).f2).size : Int))) + t155)), (0), (by first | rfl | (simp only [i64_w]; done) | (simp only [i64_w]; rfl) | (simp; done) | (simp [*]; done) | (simp [bne, beq_nil_E]; done)), (by first | rfl | (simp; done) | (simp [*]; done) | (simp [bne, beq_nil_E]; done)), H', ⟨Nat.le_refl _⟩, by repeat (first | exact Drawn0.refl _ | apply Drawn0.step)⟩
         case round =>
          clear H'
          try clear c1
          try clear p1
          try clear q1
          try clear hx1
          try clear p2
          try clear c4
          try clear c4b0
          try clear c6
          try clear c6b0
          try clear c6b1
          try clear p6
          try clear c7
          try clear c8
          try clear c8b0
          try clear c9
          try clear c9b0
          try clear hx153_0
          try clear hx153_1
          try clear hx153_2
          try clear hx153_3
          try clear hx153_4
          try clear hx153_5
          try clear hx154_0
          try clear hx154_1
          try clear hx154_2
          try clear hx154_3
          try clear hx154_4
          try clear hx154_5
          try clear hx156_0
          try clear hx156_1
          try clear hx156_2
          try clear hx156_3
          try clear hx156_4
          try clear hx156_5
          try clear p153
          try clear p154
          try clear p156
          try clear p2
          try clear q153
          try clear q154
          try clear q156
          obtain ⟨x7_3, x46_3, rfl, rfl, HA, HK3, ⟨m3, rfl⟩⟩ := hrel
          cases gk with
          | zero => exact absurd HA.out (by simp [emendationref10_spend.l1])
          | succ k3 =>
           have H := HA.out
           clear HA
           simp only [emendationref10_spend.l1] at H
           by_cases c11 : x46_3 < (((rd_T28 l0 x12_1).f3).length : Int)
           ·
            rw [if_pos c11] at H
            have c11b0 : decide (x46_3 < (((rd_T28 l0 x12_1).f3).length : Int)) = true := decide_eq_true c11
            clear c11
            by_cases c12 : 0 ≤ x12_1
            ·
             rw [if_pos c12] at H
             have c12b0 : decide (0 ≤ x12_1) = true := decide_eq_true c12
             clear c12
             by_cases c13 : x12_1 < (l0.length : Int)
             ·
              rw [if_pos c13] at H
              have c13b0 : decide (x12_1 < (l0.length : Int)) = true := decide_eq_true c13
              clear c13
              by_cases c14 : 0 ≤ x46_3
              ·
               rw [if_pos c14] at H
               have c14b0 : decide (0 ≤ x46_3) = true := decide_eq_true c14
               clear c14
               by_cases c15 : x46_3 < (((rd_T28 l0 x12_1).f3).length : Int)
               ·
                rw [if_pos c15] at H
                have c15b0 : decide (x46_3 < (((rd_T28 l0 x12_1).f3).length : Int)) = true := decide_eq_true c15
                clear c15
                have H' := Aside0.mk H
                clear H
                have p157 : 0 ≤ (x12_1 : Int) := of_decide_eq_true (by first | (with_reducible assumption) | assumption)
                have q157 : x12_1 < (l0.length : Int) := of_decide_eq_true (by first | (with_reducible assumption) | assumption)
                obtain ⟨ad157, A157_3, c157_3, A157_4, c157_4, A157_5, c157_5, e157, hx157_0, hx157_1, hx157_2, hx157_3, hx157_4, hx157_5, hl157_3, hi157_3, hl157_4, hi157_4, hl157_5, hi157_5⟩ := at_T28 HR0.out x12_1 p157 q157
                obtain rfl : ad153 = ad157 := (by injection e157)
                have HR157_3 := Aside0.mk hi157_3
                have HC157_3 := Aside0.mk hl157_3
                clear hi157_3 hl157_3
                have HR157_4 := Aside0.mk hi157_4
                have HC157_4 := Aside0.mk hl157_4
                clear hi157_4 hl157_4
                have HR157_5 := Aside0.mk hi157_5
                have HC157_5 := Aside0.mk hl157_5
                clear hi157_5 hl157_5
                replace p157 := eq_true p157
                replace q157 := eq_true q157
                have p158 : 0 ≤ (x46_3 : Int) := of_decide_eq_true (by first | (with_reducible assumption) | assumption)
                have q158 : x46_3 < (((rd_T28 l0 x12_1).f3).length : Int) := of_decide_eq_true (by first | (with_reducible assumption) | assumption)
                obtain ⟨ad158, e158, hx158_0⟩ := Kd.at_string HR157_3.out x46_3 p158 q158
                cases e158
                replace p158 := eq_true p158
                replace q158 := eq_true q158
                go_wp2
                repeat (go_quiet (fail); try go_wp2)
                go_roundg k3
                case measure => have := HK1.out; have := HJ4.out; have := HK3.out; omega
                case rel => exact ⟨(wrap64 ((wrap64 (x7_3 + 1)) + ((rdOf ByteArray.empty ((rd_T28 l0 x12_1).f3) x46_3).size : Int))), (wrap64 (x46_3 + 1)), (by first | rfl | (simp; done) | (simp [*]; done) | (simp [bne, beq_nil_E]; done)), (by first | rfl | (simp; done) | (simp [*]; done) | (simp [bne, beq_nil_E]; done)), H', ⟨by have := HK1.out; have := HJ4.out; have := HK3.out; omega⟩, by repeat (first | exact Drawn0.refl _ | apply Drawn0.step)⟩
               ·
                rw [if_neg c15] at H
                exact absurd H (by simp)
              ·
               rw [if_neg c14] at H
               exact absurd H (by simp)
             ·
              rw [if_neg c13] at H
              exact absurd H (by simp)
            ·
             rw [if_neg c12] at H
             exact absurd H (by simp)
           ·
            rw [if_neg c11] at H
            have c11b0 : decide (x46_3 < (((rd_T28 l0 x12_1).f3).length : Int)) = false := decide_eq_false c11
            clear c11
            by_cases c16 : 0 ≤ x12_1
            ·
             rw [if_pos c16] at H
             have c16b0 : decide (0 ≤ x12_1) = true := decide_eq_true c16
             clear c16
             by_cases c17 : x12_1 < (l0.length : Int)
             ·
              rw [if_pos c17] at H
              have c17b0 : decide (x12_1 < (l0.length : Int)) = true := decide_eq_true c17
              clear c17
              replace H := Option.bind_eq_some_iff.mp H
              obtain ⟨t160, A180, H⟩ := H
              replace H : (emendationref10_spend.l0 k3 l0 a1 a2 (wrap64 (x7_3 + t160)) (l0.length : Int) (wrap64 (x12_1 + 1))) = some r := H
              have A18 := Aside0.mk A180
              clear A180
              have H' := Aside0.mk H
              clear H
              have p159 : 0 ≤ (x12_1 : Int) := of_decide_eq_true (by first | (with_reducible assumption) | assumption)
              have q159 : x12_1 < (l0.length : Int) := of_decide_eq_true (by first | (with_reducible assumption) | assumption)
              obtain ⟨ad159, A159_3, c159_3, A159_4, c159_4, A159_5, c159_5, e159, hx159_0, hx159_1, hx159_2, hx159_3, hx159_4, hx159_5, hl159_3, hi159_3, hl159_4, hi159_4, hl159_5, hi159_5⟩ := at_T28 HR0.out x12_1 p159 q159
              obtain rfl : ad153 = ad159 := (by injection e159)
              have HR159_3 := Aside0.mk hi159_3
              have HC159_3 := Aside0.mk hl159_3
              clear hi159_3 hl159_3
              have HR159_4 := Aside0.mk hi159_4
              have HC159_4 := Aside0.mk hl159_4
              clear hi159_4 hl159_4
              have HR159_5 := Aside0.mk hi159_5
              have HC159_5 := Aside0.mk hl159_5
              clear hi159_5 hl159_5
              replace p159 := eq_true p159
              replace q159 := eq_true q159
              go_wp2_with (first | (go_at_call 19; (with_reducible refine (ih k3 (by have := HK1.out; have := HJ4.out; have := HK3.out; omega) _ _ ((rd_T28 l0 x12_1).f5) (wrap64 (a1 - 1)) (wrap64 (a2 - x7_3)) t160 _ ?side1 ?side2 A18.out).mono ?_); (case side1 => repeat (first | exact HR159_5.out | (with_reducible refine Kd.C_alloc ?_ _) | (with_reducible refine Kd.C_drewN ?_ _) | (with_reducible refine Kd.C_drew ?_))); (case side2 => exact HC159_5.out); rintro e w' ⟨rfl, ⟨nd, rfl⟩⟩; (try first | exact ⟨rfl, _, World.drewN_drewN _ _ _⟩ | exact ⟨rfl, _, Eq.trans (World.drewN_drewN _ _ _) (congrArg (World.drewN _) (Nat.add_assoc _ _ _))⟩)))
              repeat (go_quiet (first | (go_at_call 19; (with_reducible refine (ih k3 (by have := HK1.out; have := HJ4.out; have := HK3.out; omega) _ _ ((rd_T28 l0 x12_1).f5) (wrap64 (a1 - 1)) (wrap64 (a2 - x7_3)) t160 _ ?side1 ?side2 A18.out).mono ?_); (case side1 => repeat (first | exact HR159_5.out | (with_reducible refine Kd.C_alloc ?_ _) | (with_reducible refine Kd.C_drewN ?_ _) | (with_reducible refine Kd.C_drew ?_))); (case side2 => exact HC159_5.out); rintro e w' ⟨rfl, ⟨nd, rfl⟩⟩; (try first | exact ⟨rfl, _, World.drewN_drewN _ _ _⟩ | exact ⟨rfl, _, Eq.trans (World.drewN_drewN _ _ _) (congrArg (World.drewN _) (Nat.add_assoc _ _ _))⟩))); try go_wp2_with (first | (go_at_call 19; (with_reducible refine (ih k3 (by have := HK1.out; have := HJ4.out; have := HK3.out; omega) _ _ ((rd_T28 l0 x12_1).f5) (wrap64 (a1 - 1)) (wrap64 (a2 - x7_3)) t160 _ ?side1 ?side2 A18.out).mono ?_); (case side1 => repeat (first | exact HR159_5.out | (with_reducible refine Kd.C_alloc ?_ _) | (with_reducible refine Kd.C_drewN ?_ _) | (with_reducible refine Kd.C_drew ?_))); (case side2 => exact HC159_5.out); rintro e w' ⟨rfl, ⟨nd, rfl⟩⟩; (try first | exact ⟨rfl, _, World.drewN_drewN _ _ _⟩ | exact ⟨rfl, _, Eq.trans (World.drewN_drewN _ _ _) (congrArg (World.drewN _) (Nat.add_assoc _ _ _))⟩))))
              go_roundg k3
              case measure => have := HK1.out; have := HJ4.out; have := HK3.out; omega
              case rel => exact ⟨(wrap64 (x7_3 + t160)), (wrap64 (x12_1 + 1)), (by first | rfl | (simp; done) | (simp [*]; done) | (simp [bne, beq_nil_E]; done)), (by first | rfl | (simp; done) | (simp [*]; done) | (simp [bne, beq_nil_E]; done)), H', ⟨by have := HK1.out; have := HJ4.out; have := HK3.out; omega⟩, by repeat (first | exact Drawn0.refl _ | apply Drawn0.step)⟩
             ·
              rw [if_neg c17] at H
              exact absurd H (by simp)
            ·
             rw [if_neg c16] at H
             exact absurd H (by simp)
        ·
         rw [if_neg c9] at H
         exact absurd H (by simp)
       ·
        rw [if_neg c8] at H
        exact absurd H (by simp)
   ·
    rw [if_neg c4] at H
    have c4b0 : decide (x12_1 < (l0.length : Int)) = false := decide_eq_false c4
    clear c4
    obtain rfl := Option.some.inj H
    go_wp2
    repeat (go_quiet (fail); try go_wp2)
    go_ret
    exact ⟨by first | rfl | (simp; done) | (simp [*]; done) | (simp [bne, beq_nil_E]; done), by repeat (first | exact Drawn0.refl _ | apply Drawn0.step)⟩

end Go.Proofs.YtbbkjdcpmhpkjaaDoor.X
