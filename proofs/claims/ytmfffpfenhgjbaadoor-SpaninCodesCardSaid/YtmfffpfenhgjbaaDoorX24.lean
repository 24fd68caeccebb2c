-- Written by a program of this session (wip/mkprint.py over the kit's print) out of the translation; Lean checks it.
import Derived.Test.YtmfffpfenhgjbaaDoorX0
import Derived.Test.YtmfffpfenhgjbaaDoorX6
import Derived.Test.YtmfffpfenhgjbaaDoorX9
import Derived.Test.YtmfffpfenhgjbaaDoorGivenTabs
namespace Go.Proofs.YtmfffpfenhgjbaaDoor.X
open Go.RowKit Go.Proofs.YtmfffpfenhgjbaaDoor.G Go.Proofs.YtmfffpfenhgjbaaDoorW.PrintWords Go.Proofs.YtmfffpfenhgjbaaDoorW.PrintLast Go.Proofs.YtmfffpfenhgjbaaDoorW.PrintMore
attribute [local go_sem] max2_int min2_int max_two min_two max_three min_three max_four min_four   -- for this text's walks alone
set_option linter.unusedVariables false
set_option linter.unusedSimpArgs false

/-! ### emendationlaw08_SpaninCodes: function 8 -/
mutual
def emendationlaw08_SpaninCodes.j0 : Nat → ByteArray → Bool → Option (Bool)
 | 0, _, _ => none
 | k + 1, x0, x18 => if x18 = true then ((emendationlaw08_awake.f k).bind fun t257 => (some t257)) else (emendationlaw08_SpaninCodes.l0 k x0 true (⟨#[96]⟩ : ByteArray) (x0.size : Int) 0)
def emendationlaw08_SpaninCodes.l0 : Nat → ByteArray → Bool → ByteArray → Int → Int → Option (Bool)
 | 0, _, _, _, _, _ => none
 | k + 1, x0, x3, x4, x21, x22 => if x22 < x21 then (if 0 ≤ x22 then (if x22 < (x0.size : Int) then (if (bt x0 x22) = 10 then (emendationlaw08_SpaninCodes.j2 k x0 x3 x4 x22 x21 x22 true) else (emendationlaw08_SpaninCodes.j2 k x0 x3 x4 x22 x21 x22 ((bt x0 x22) == 13))) else (none)) else (none)) else (if x4.size + 1 ≤ 9223372036854775807 then (if (x4 ++ (⟨#[32]⟩ : ByteArray)).size + x0.size ≤ 9223372036854775807 then (if ((x4 ++ (⟨#[32]⟩ : ByteArray)) ++ x0).size + 1 ≤ 9223372036854775807 then (if (((x4 ++ (⟨#[32]⟩ : ByteArray)) ++ x0) ++ (⟨#[32]⟩ : ByteArray)).size + x4.size ≤ 9223372036854775807 then ((spanin_Parse.f ((((x4 ++ (⟨#[32]⟩ : ByteArray)) ++ x0) ++ (⟨#[32]⟩ : ByteArray)) ++ x4)).bind fun t258 => (if x3 = true then (if 1 + x0.size ≤ 9223372036854775807 then (if ((⟨#[32]⟩ : ByteArray) ++ x0).size + 1 ≤ 9223372036854775807 then (if (t258.length : Int) = 1 then (if 0 < (t258.length : Int) then (if ((rd_T26 t258 0).f0) = 2 then (some (((rd_T26 t258 0).f1).toList == (((⟨#[32]⟩ : ByteArray) ++ x0) ++ (⟨#[32]⟩ : ByteArray)).toList)) else (some false)) else (none)) else (some false)) else (none)) else (none)) else (if (t258.length : Int) = 1 then (if 0 < (t258.length : Int) then (if ((rd_T26 t258 0).f0) = 2 then (some (((rd_T26 t258 0).f1).toList == x0.toList)) else (some false)) else (none)) else (some false)))) else (none)) else (none)) else (none)) else (none))
def emendationlaw08_SpaninCodes.j2 : Nat → ByteArray → Bool → ByteArray → Int → Int → Int → Bool → Option (Bool)
 | 0, _, _, _, _, _, _, _ => none
 | k + 1, x0, x3, x4, x5, x21, x22, x34 => if x34 = true then (some true) else (if x3 = true then (if 0 ≤ x5 then (if x5 < (x0.size : Int) then (if (bt x0 x5) = 96 then (if x4.size + 1 ≤ 9223372036854775807 then (emendationlaw08_SpaninCodes.l0 k x0 ((bt x0 x5) == 32) (x4 ++ (⟨#[96]⟩ : ByteArray)) x21 (wrap64 (x22 + 1))) else (none)) else (emendationlaw08_SpaninCodes.l0 k x0 ((bt x0 x5) == 32) x4 x21 (wrap64 (x22 + 1)))) else (none)) else (none)) else (if 0 ≤ x5 then (if x5 < (x0.size : Int) then (if (bt x0 x5) = 96 then (if x4.size + 1 ≤ 9223372036854775807 then (emendationlaw08_SpaninCodes.l0 k x0 false (x4 ++ (⟨#[96]⟩ : ByteArray)) x21 (wrap64 (x22 + 1))) else (none)) else (emendationlaw08_SpaninCodes.l0 k x0 false x4 x21 (wrap64 (x22 + 1)))) else (none)) else (none)))
end
def emendationlaw08_SpaninCodes.f (k : Nat) (a0 : ByteArray) : Option (Bool) := (emendationlaw08_awake.f k).bind fun t256 => (if t256 = true then (if (a0.size : Int) > 100 then (emendationlaw08_SpaninCodes.j0 k a0 true) else (emendationlaw08_SpaninCodes.j0 k a0 (a0.toList == ([] : List UInt8)))) else (emendationlaw08_SpaninCodes.j0 k a0 true))
set_option maxHeartbeats 8000000 in
set_option maxRecDepth 100000 in
theorem emendationlaw08_SpaninCodes.calls (k : Nat) (a0 : ByteArray) (r : Bool) (w : World) (hT : Tabs w) (h : emendationlaw08_SpaninCodes.f k a0 = some r) :
  Calls Tryd.prog 8 #[.string a0] w fun e w' => e = .returned (.bool r) ∧ Below w.heap.size w w' := by
 have HT := Aside0.mk hT
 clear hT
 have HB := Aside0.mk (Below.refl w.heap.size w)
 have H : ((emendationlaw08_awake.f k).bind fun t256 => (if t256 = true then (if (a0.size : Int) > 100 then (emendationlaw08_SpaninCodes.j0 k a0 true) else (emendationlaw08_SpaninCodes.j0 k a0 (a0.toList == ([] : List UInt8)))) else (emendationlaw08_SpaninCodes.j0 k a0 true))) = some r := h
 clear h
 have HC2 := Aside0.mk H
 clear H
 go_enter Tryd.func8, Tryd.ntmps8
 go_upto_region 1 with (fail)
 go_cut [18] (fun v18 wc => ∃ (kq : Nat) (x18_1 : Bool), v18 = .bool x18_1 ∧ Aside0 (emendationlaw08_SpaninCodes.j0 kq a0 x18_1 = some r) ∧ Aside0 (kq ≤ k) ∧ Aside0 (Below w.heap.size w wc))
 case first =>
  have H := HC2.out
  clear HC2
  replace H := Option.bind_eq_some_iff.mp H
  obtain ⟨t256, A30, H⟩ := H
  replace H : (if t256 = true then (if (a0.size : Int) > 100 then (emendationlaw08_SpaninCodes.j0 k a0 true) else (emendationlaw08_SpaninCodes.j0 k a0 (a0.toList == ([] : List UInt8)))) else (emendationlaw08_SpaninCodes.j0 k a0 true)) = some r := H
  have A3 := Aside0.mk A30
  clear A30
  by_cases c4 : t256 = true
  ·
   subst c4
   have H1 : (if (a0.size : Int) > 100 then (emendationlaw08_SpaninCodes.j0 k a0 true) else (emendationlaw08_SpaninCodes.j0 k a0 (a0.toList == ([] : List UInt8)))) = some r := by rw [if_pos rfl] at H; exact H
   clear H
   have H := H1
   clear H1
   by_cases c5 : (a0.size : Int) > 100
   ·
    rw [if_pos c5] at H
    have c5b0 : decide (100 < (a0.size : Int)) = true := decide_eq_true c5
    have c5b1 : decide (100 < a0.size) = true := decide_eq_true (by omega)
    clear c5
    (first | rw [c5b0] | (simp only [i64_w, i32_w]; rw [c5b0]) | skip)
    have H' := Aside0.mk H
    clear H
    go_wp2_with (first | ((with_reducible refine gate_callee (f := 19) rfl ?_); refine goesL_ (some 8) rfl rfl Tryd.func19 (by kernel_rfl) rfl #[] rfl (by (try simp only [List.map_toArray, List.map_cons, List.map_nil]); first | done | rfl | (simp only [List.length_drop, List.length_take]; rfl)) ?_; (with_reducible refine (emendationlaw08_awake.calls k  true _ ?side1 A3.out).mono ?_); (case side1 => first | exact HT.out | exact Tabs.at HT.out (by repeat (with_reducible first | exact HB.out | apply below_alloc | apply pw_below_drewN | apply below_drew1))); rintro e w6 ⟨rfl, hb⟩; refine ⟨_, rfl, ?_⟩; have n0_ := Aside0.mk (below_step (by repeat (with_reducible first | exact HB.out | apply below_alloc | apply pw_below_drewN | apply below_drew1)) hb); clear HB; have HB := n0_; clear n0_; (try clear hb); (try clear hb2); (try clear hk); (try clear hi)))
    go_meet
    case rel => exact ⟨_, (true), (by first | rfl | (simp; done) | (simp [*]; done) | (simp [bne, beq_nil_E]; done)), H', ⟨by first | omega | exact Nat.le_refl _⟩, ⟨by repeat (with_reducible first | exact HB.out | apply below_alloc | apply pw_below_drewN | apply below_drew1)⟩⟩
   ·
    rw [if_neg c5] at H
    have c5b0 : decide (100 < (a0.size : Int)) = false := decide_eq_false c5
    have c5b1 : decide (100 < a0.size) = false := decide_eq_false (by omega)
    clear c5
    (first | rw [c5b0] | (simp only [i64_w, i32_w]; rw [c5b0]) | skip)
    have H' := Aside0.mk H
    clear H
    go_wp2_with (first | ((with_reducible refine gate_callee (f := 19) rfl ?_); refine goesL_ (some 8) rfl rfl Tryd.func19 (by kernel_rfl) rfl #[] rfl (by (try simp only [List.map_toArray, List.map_cons, List.map_nil]); first | done | rfl | (simp only [List.length_drop, List.length_take]; rfl)) ?_; (with_reducible refine (emendationlaw08_awake.calls k  true _ ?side1 A3.out).mono ?_); (case side1 => first | exact HT.out | exact Tabs.at HT.out (by repeat (with_reducible first | exact HB.out | apply below_alloc | apply pw_below_drewN | apply below_drew1))); rintro e w7 ⟨rfl, hb⟩; refine ⟨_, rfl, ?_⟩; have n0_ := Aside0.mk (below_step (by repeat (with_reducible first | exact HB.out | apply below_alloc | apply pw_below_drewN | apply below_drew1)) hb); clear HB; have HB := n0_; clear n0_; (try clear hb); (try clear hb2); (try clear hk); (try clear hi)))
    go_meet
    case rel => exact ⟨_, ((a0.toList == ([] : List UInt8))), (by first | rfl | (simp; done) | (simp [*]; done) | (simp [bne, beq_nil_E]; done)), H', ⟨by first | omega | exact Nat.le_refl _⟩, ⟨by repeat (with_reducible first | exact HB.out | apply below_alloc | apply pw_below_drewN | apply below_drew1)⟩⟩
  ·
   replace c4 := Bool.eq_false_iff.mpr c4
   subst c4
   have H1 : (emendationlaw08_SpaninCodes.j0 k a0 true) = some r := by rw [if_neg (show ¬ (false = true) by decide)] at H; exact H
   clear H
   have H := H1
   clear H1
   have H' := Aside0.mk H
   clear H
   go_wp2_with (first | ((with_reducible refine gate_callee (f := 19) rfl ?_); refine goesL_ (some 8) rfl rfl Tryd.func19 (by kernel_rfl) rfl #[] rfl (by (try simp only [List.map_toArray, List.map_cons, List.map_nil]); first | done | rfl | (simp only [List.length_drop, List.length_take]; rfl)) ?_; (with_reducible refine (emendationlaw08_awake.calls k  false _ ?side1 A3.out).mono ?_); (case side1 => first | exact HT.out | exact Tabs.at HT.out (by repeat (with_reducible first | exact HB.out | apply below_alloc | apply pw_below_drewN | apply below_drew1))); rintro e w8 ⟨rfl, hb⟩; refine ⟨_, rfl, ?_⟩; have n0_ := Aside0.mk (below_step (by repeat (with_reducible first | exact HB.out | apply below_alloc | apply pw_below_drewN | apply below_drew1)) hb); clear HB; have HB := n0_; clear n0_; (try clear hb); (try clear hb2); (try clear hk); (try clear hi)))
   go_meet
   case rel => exact ⟨_, (true), (by first | rfl | (simp; done) | (simp [*]; done) | (simp [bne, beq_nil_E]; done)), H', ⟨by first | omega | exact Nat.le_refl _⟩, ⟨by repeat (with_reducible first | exact HB.out | apply below_alloc | apply pw_below_drewN | apply below_drew1)⟩⟩
 case rest =>
  clear HC2
  try clear c1
  try clear p2
  try clear c4
  try clear c5
  try clear c5b0
  try clear c5b1
  try clear c8
  obtain ⟨kq, x18_1, rfl, HA, HJ1, HB⟩ := hcut
  cases kq with
  | zero => exact absurd HA.out (by simp [emendationlaw08_SpaninCodes.j0])
  | succ kj1 =>
   have H := HA.out
   clear HA
   simp only [emendationlaw08_SpaninCodes.j0] at H
   by_cases c9 : x18_1 = true
   ·
    subst c9
    have H1 : ((emendationlaw08_awake.f kj1).bind fun t257 => (some t257)) = some r := by rw [if_pos rfl] at H; exact H
    clear H
    have H := H1
    clear H1
    replace H := Option.bind_eq_some_iff.mp H
    obtain ⟨t257, A100, H⟩ := H
    replace H : (some t257) = some r := H
    have A10 := Aside0.mk A100
    clear A100
    obtain rfl := Option.some.inj H
    go_wp2_with (first | ((with_reducible refine gate_callee (f := 19) rfl ?_); refine goesL_ (some 19) rfl rfl Tryd.func19 (by kernel_rfl) rfl #[] rfl (by (try simp only [List.map_toArray, List.map_cons, List.map_nil]); first | done | rfl | (simp only [List.length_drop, List.length_take]; rfl)) ?_; (with_reducible refine (emendationlaw08_awake.calls kj1  t257 _ ?side1 A10.out).mono ?_); (case side1 => first | exact HT.out | exact Tabs.at HT.out (by repeat (with_reducible first | exact HB.out | apply below_alloc | apply pw_below_drewN | apply below_drew1))); rintro e w11 ⟨rfl, hb⟩; refine ⟨_, rfl, ?_⟩; have n0_ := Aside0.mk (below_step (by repeat (with_reducible first | exact HB.out | apply below_alloc | apply pw_below_drewN | apply below_drew1)) hb); clear HB; have HB := n0_; clear n0_; (try clear hb); (try clear hb2); (try clear hk); (try clear hi)))
    go_ret
    exact ⟨by first | rfl | (simp [errW_none, errW_some] <;> rfl) | (simp [*, errW_none, errW_some] <;> rfl), by repeat (with_reducible first | exact HB.out | apply below_alloc | apply pw_below_drewN | apply below_drew1)⟩
   ·
    replace c9 := Bool.eq_false_iff.mpr c9
    subst c9
    have H1 : (emendationlaw08_SpaninCodes.l0 kj1 a0 true (⟨#[96]⟩ : ByteArray) (a0.size : Int) 0) = some r := by rw [if_neg (show ¬ (false = true) by decide)] at H; exact H
    clear H
    have H := H1
    clear H1
    have H' := Aside0.mk H
    clear H
    go_wp2
    go_loopg [3, 4, 22] kj1 (fun kq v3 v4 v22 w' => ∃ (x3_2 : Bool) (x4_2 : ByteArray) (x22_2 : Int), v3 = .bool x3_2 ∧ v4 = .string x4_2 ∧ v22 = .int .i64 x22_2 ∧ Aside0 (emendationlaw08_SpaninCodes.l0 kq a0 x3_2 x4_2 (a0.size : Int) x22_2 = some r) ∧ Aside0 (kq ≤ kj1) ∧ Aside0 (Below w.heap.size w w'))
    case atStart => exact ⟨(true), ((⟨#[96]⟩ : ByteArray)), (0), (by first | rfl | (simp; done) | (simp [*]; done) | (simp [bne, beq_nil_E]; done)), (by first | rfl | (simp; done) | (simp [*]; done) | (simp [bne, beq_nil_E]; done)), (by first | rfl | (simp; done) | (simp [*]; done) | (simp [bne, beq_nil_E]; done)), H', ⟨Nat.le_refl _⟩, ⟨by repeat (with_reducible first | exact HB.out | apply below_alloc | apply pw_below_drewN | apply below_drew1)⟩⟩
    case round =>
     clear H'
     try clear c1
     try clear p2
     try clear c4
     try clear c5
     try clear c5b0
     try clear c5b1
     try clear c8
     try clear c9
     try clear p2
     obtain ⟨x3_2, x4_2, x22_2, rfl, rfl, rfl, HA, HK2, HB⟩ := hrel
     cases gk with
     | zero => exact absurd HA.out (by simp [emendationlaw08_SpaninCodes.l0])
     | succ k2 =>
      have H := HA.out
      clear HA
      simp only [emendationlaw08_SpaninCodes.l0] at H
      by_cases c12 : x22_2 < (a0.size : Int)
      ·
       rw [if_pos c12] at H
       have c12b0 : decide (x22_2 < (a0.size : Int)) = true := decide_eq_true c12
       clear c12
       have HC13 := Aside0.mk H
       clear H
       go_upto_region 8 with (fail)
       go_cut [34] (fun v34 wc => ∃ (kq : Nat) (x34_12 : Bool), v34 = .bool x34_12 ∧ Aside0 (emendationlaw08_SpaninCodes.j2 kq a0 x3_2 x4_2 x22_2 (a0.size : Int) x22_2 x34_12 = some r) ∧ Aside0 (kq ≤ k2) ∧ Aside0 (Below w.heap.size w wc))
       case first =>
        have H := HC13.out
        clear HC13
        by_cases c14 : 0 ≤ x22_2
        ·
         rw [if_pos c14] at H
         have c14b0 : decide (0 ≤ x22_2) = true := decide_eq_true c14
         clear c14
         (first | rw [c14b0] | (simp only [i64_w, i32_w]; rw [c14b0]) | skip)
         by_cases c15 : x22_2 < (a0.size : Int)
         ·
          rw [if_pos c15] at H
          have c15b0 : decide (x22_2 < (a0.size : Int)) = true := decide_eq_true c15
          clear c15
          by_cases c17 : (bt a0 x22_2) = 10
          ·
           rw [if_pos c17] at H
           have c17b0 : ((bt a0 x22_2) == 10) = true := beq_iff_eq.mpr c17
           have c17b1 : ((bt a0 x22_2) != 10) = false := bne_eq_false_iff_eq.mpr c17
           clear c17
           have H' := Aside0.mk H
           clear H
           have p16 : 0 ≤ (x22_2 : Int) := of_decide_eq_true (by first | (with_reducible assumption) | assumption)
           have q16 : x22_2 < (a0.size : Int) := of_decide_eq_true (by first | (with_reducible assumption) | assumption)
           have hx16 := bt_at a0 x22_2
           replace p16 := eq_true p16
           replace q16 := eq_true q16
           go_wp2
           go_meet
           case rel => exact ⟨_, (true), (by first | rfl | (simp; done) | (simp [*]; done) | (simp [bne, beq_nil_E]; done)), H', ⟨by have := HJ1.out; have := HK2.out; first | omega | exact Nat.le_refl _⟩, ⟨by repeat (with_reducible first | exact HB.out | apply below_alloc | apply pw_below_drewN | apply below_drew1)⟩⟩
          ·
           rw [if_neg c17] at H
           have c17b0 : ((bt a0 x22_2) == 10) = false := beq_eq_false_iff_ne.mpr c17
           have c17b1 : ((bt a0 x22_2) != 10) = true := bne_iff_ne.mpr c17
           have H' := Aside0.mk H
           clear H
           have p16 : 0 ≤ (x22_2 : Int) := of_decide_eq_true (by first | (with_reducible assumption) | assumption)
           have q16 : x22_2 < (a0.size : Int) := of_decide_eq_true (by first | (with_reducible assumption) | assumption)
           have hx16 := bt_at a0 x22_2
           replace p16 := eq_true p16
           replace q16 := eq_true q16
           have p18 : 0 ≤ (x22_2 : Int) := of_decide_eq_true (by first | (with_reducible assumption) | assumption)
           have q18 : x22_2 < (a0.size : Int) := of_decide_eq_true (by first | (with_reducible assumption) | assumption)
           have hx18 := bt_at a0 x22_2
           replace p18 := eq_true p18
           replace q18 := eq_true q18
           go_wp2
           go_meet
           case rel => exact ⟨_, (((bt a0 x22_2) == 13)), (by first | rfl | (simp; done) | (simp [*]; done) | (simp [bne, beq_nil_E]; done)), H', ⟨by have := HJ1.out; have := HK2.out; first | omega | exact Nat.le_refl _⟩, ⟨by repeat (with_reducible first | exact HB.out | apply below_alloc | apply pw_below_drewN | apply below_drew1)⟩⟩
         ·
          rw [if_neg c15] at H
          exact absurd H (by simp)
        ·
         rw [if_neg c14] at H
         exact absurd H (by simp)
       case rest =>
        clear HC13
        try clear c1
        try clear p1
        try clear q1
        try clear hx1
        try clear p2
        try clear c4
        try clear c5
        try clear c5b0
        try clear c5b1
        try clear c8
        try clear c9
        try clear c12
        try clear c12b0
        try clear c14
        try clear c14b0
        try clear c15
        try clear c15b0
        try clear p16
        try clear q16
        try clear hx16
        try clear c17
        try clear c17b0
        try clear c17b1
        try clear p18
        try clear q18
        try clear hx18
        try clear p16
        try clear p18
        try clear p2
        try clear q16
        try clear q18
        obtain ⟨kq, x34_12, rfl, HA, HJ12, HB⟩ := hcut
        cases kq with
        | zero => exact absurd HA.out (by simp [emendationlaw08_SpaninCodes.j2])
        | succ kj12 =>
         have H := HA.out
         clear HA
         simp only [emendationlaw08_SpaninCodes.j2] at H
         by_cases c19 : x34_12 = true
         ·
          subst c19
          have H1 : (some true) = some r := by rw [if_pos rfl] at H; exact H
          clear H
          have H := H1
          clear H1
          obtain rfl := Option.some.inj H
          go_wp2
          go_ret
          exact ⟨by first | rfl | (simp [errW_none, errW_some] <;> rfl) | (simp [*, errW_none, errW_some] <;> rfl), by repeat (with_reducible first | exact HB.out | apply below_alloc | apply pw_below_drewN | apply below_drew1)⟩
         ·
          replace c19 := Bool.eq_false_iff.mpr c19
          subst c19
          have H1 : (if x3_2 = true then (if 0 ≤ x22_2 then (if x22_2 < (a0.size : Int) then (if (bt a0 x22_2) = 96 then (if x4_2.size + 1 ≤ 9223372036854775807 then (emendationlaw08_SpaninCodes.l0 kj12 a0 ((bt a0 x22_2) == 32) (x4_2 ++ (⟨#[96]⟩ : ByteArray)) (a0.size : Int) (wrap64 (x22_2 + 1))) else (none)) else (emendationlaw08_SpaninCodes.l0 kj12 a0 ((bt a0 x22_2) == 32) x4_2 (a0.size : Int) (wrap64 (x22_2 + 1)))) else (none)) else (none)) else (if 0 ≤ x22_2 then (if x22_2 < (a0.size : Int) then (if (bt a0 x22_2) = 96 then (if x4_2.size + 1 ≤ 9223372036854775807 then (emendationlaw08_SpaninCodes.l0 kj12 a0 false (x4_2 ++ (⟨#[96]⟩ : ByteArray)) (a0.size : Int) (wrap64 (x22_2 + 1))) else (none)) else (emendationlaw08_SpaninCodes.l0 kj12 a0 false x4_2 (a0.size : Int) (wrap64 (x22_2 + 1)))) else (none)) else (none))) = some r := by rw [if_neg (show ¬ (false = true) by decide)] at H; exact H
          clear H
          have H := H1
          clear H1
          by_cases c20 : x3_2 = true
          ·
           subst c20
           have H1 : (if 0 ≤ x22_2 then (if x22_2 < (a0.size : Int) then (if (bt a0 x22_2) = 96 then (if x4_2.size + 1 ≤ 9223372036854775807 then (emendationlaw08_SpaninCodes.l0 kj12 a0 ((bt a0 x22_2) == 32) (x4_2 ++ (⟨#[96]⟩ : ByteArray)) (a0.size : Int) (wrap64 (x22_2 + 1))) else (none)) else (emendationlaw08_SpaninCodes.l0 kj12 a0 ((bt a0 x22_2) == 32) x4_2 (a0.size : Int) (wrap64 (x22_2 + 1)))) else (none)) else (none)) = some r := by rw [if_pos rfl] at H; exact H
           clear H
           have H := H1
           clear H1
           by_cases c21 : 0 ≤ x22_2
           ·
            rw [if_pos c21] at H
            have c21b0 : decide (0 ≤ x22_2) = true := decide_eq_true c21
            clear c21
            by_cases c22 : x22_2 < (a0.size : Int)
            ·
             rw [if_pos c22] at H
             have c22b0 : decide (x22_2 < (a0.size : Int)) = true := decide_eq_true c22
             clear c22
             by_cases c25 : (bt a0 x22_2) = 96
             ·
              rw [if_pos c25] at H
              have c25b0 : ((bt a0 x22_2) == 96) = true := beq_iff_eq.mpr c25
              have c25b1 : ((bt a0 x22_2) != 96) = false := bne_eq_false_iff_eq.mpr c25
              clear c25
              by_cases c26 : x4_2.size + 1 ≤ 9223372036854775807
              ·
               rw [if_pos c26] at H
               have c26b0 := eq_true c26
               have c26b1 : decide (x4_2.size + 1 ≤ 9223372036854775807) = true := decide_eq_true c26
               try have c26b2 : (9223372036854775807 < x4_2.size + 1) = False := eq_false (Nat.not_lt.2 c26)
               have H' := Aside0.mk H
               clear H
               have p23 : 0 ≤ (x22_2 : Int) := of_decide_eq_true (by first | (with_reducible assumption) | assumption)
               have q23 : x22_2 < (a0.size : Int) := of_decide_eq_true (by first | (with_reducible assumption) | assumption)
               have hx23 := bt_at a0 x22_2
               replace p23 := eq_true p23
               replace q23 := eq_true q23
               have p24 : 0 ≤ (x22_2 : Int) := of_decide_eq_true (by first | (with_reducible assumption) | assumption)
               have q24 : x22_2 < (a0.size : Int) := of_decide_eq_true (by first | (with_reducible assumption) | assumption)
               have hx24 := bt_at a0 x22_2
               replace p24 := eq_true p24
               replace q24 := eq_true q24
               go_wp2
               go_roundg kj12
               case measure => have := HJ1.out; have := HK2.out; have := HJ12.out; omega
               case rel => exact ⟨(((bt a0 x22_2) == 32)), (x4_2 ++ (⟨#[96]⟩ : ByteArray)), (wrap64 (x22_2 + 1)), (by first | rfl | (simp; done) | (simp [*]; done) | (simp [bne, beq_nil_E]; done)), (by first | rfl | (simp; done) | (simp [*]; done) | (simp [bne, beq_nil_E]; done)), (by first | rfl | (simp; done) | (simp [*]; done) | (simp [bne, beq_nil_E]; done)), H', ⟨by have := HJ1.out; have := HK2.out; have := HJ12.out; omega⟩, ⟨by repeat (with_reducible first | exact HB.out | apply below_alloc | apply pw_below_drewN | apply below_drew1)⟩⟩
              ·
               rw [if_neg c26] at H
               exact absurd H (by simp)
             ·
              rw [if_neg c25] at H
              have c25b0 : ((bt a0 x22_2) == 96) = false := beq_eq_false_iff_ne.mpr c25
              have c25b1 : ((bt a0 x22_2) != 96) = true := bne_iff_ne.mpr c25
              have H' := Aside0.mk H
              clear H
              have p23 : 0 ≤ (x22_2 : Int) := of_decide_eq_true (by first | (with_reducible assumption) | assumption)
              have q23 : x22_2 < (a0.size : Int) := of_decide_eq_true (by first | (with_reducible assumption) | assumption)
              have hx23 := bt_at a0 x22_2
              replace p23 := eq_true p23
              replace q23 := eq_true q23
              have p24 : 0 ≤ (x22_2 : Int) := of_decide_eq_true (by first | (with_reducible assumption) | assumption)
              have q24 : x22_2 < (a0.size : Int) := of_decide_eq_true (by first | (with_reducible assumption) | assumption)
              have hx24 := bt_at a0 x22_2
              replace p24 := eq_true p24
              replace q24 := eq_true q24
              go_wp2
              go_roundg kj12
              case measure => have := HJ1.out; have := HK2.out; have := HJ12.out; omega
              case rel => exact ⟨(((bt a0 x22_2) == 32)), (x4_2), (wrap64 (x22_2 + 1)), (by first | rfl | (simp; done) | (simp [*]; done) | (simp [bne, beq_nil_E]; done)), (by first | rfl | (simp; done) | (simp [*]; done) | (simp [bne, beq_nil_E]; done)), (by first | rfl | (simp; done) | (simp [*]; done) | (simp [bne, beq_nil_E]; done)), H', ⟨by have := HJ1.out; have := HK2.out; have := HJ12.out; omega⟩, ⟨by repeat (with_reducible first | exact HB.out | apply below_alloc | apply pw_below_drewN | apply below_drew1)⟩⟩
            ·
             rw [if_neg c22] at H
             exact absurd H (by simp)
           ·
            rw [if_neg c21] at H
            exact absurd H (by simp)
          ·
           replace c20 := Bool.eq_false_iff.mpr c20
           subst c20
           have H1 : (if 0 ≤ x22_2 then (if x22_2 < (a0.size : Int) then (if (bt a0 x22_2) = 96 then (if x4_2.size + 1 ≤ 9223372036854775807 then (emendationlaw08_SpaninCodes.l0 kj12 a0 false (x4_2 ++ (⟨#[96]⟩ : ByteArray)) (a0.size : Int) (wrap64 (x22_2 + 1))) else (none)) else (emendationlaw08_SpaninCodes.l0 kj12 a0 false x4_2 (a0.size : Int) (wrap64 (x22_2 + 1)))) else (none)) else (none)) = some r := by rw [if_neg (show ¬ (false = true) by decide)] at H; exact H
           clear H
           have H := H1
           clear H1
           by_cases c27 : 0 ≤ x22_2
           ·
            rw [if_pos c27] at H
            have c27b0 : decide (0 ≤ x22_2) = true := decide_eq_true c27
            clear c27
            by_cases c28 : x22_2 < (a0.size : Int)
            ·
             rw [if_pos c28] at H
             have c28b0 : decide (x22_2 < (a0.size : Int)) = true := decide_eq_true c28
             clear c28
             by_cases c30 : (bt a0 x22_2) = 96
             ·
              rw [if_pos c30] at H
              have c30b0 : ((bt a0 x22_2) == 96) = true := beq_iff_eq.mpr c30
              have c30b1 : ((bt a0 x22_2) != 96) = false := bne_eq_false_iff_eq.mpr c30
              clear c30
              by_cases c31 : x4_2.size + 1 ≤ 9223372036854775807
              ·
               rw [if_pos c31] at H
               have c31b0 := eq_true c31
               have c31b1 : decide (x4_2.size + 1 ≤ 9223372036854775807) = true := decide_eq_true c31
               try have c31b2 : (9223372036854775807 < x4_2.size + 1) = False := eq_false (Nat.not_lt.2 c31)
               have H' := Aside0.mk H
               clear H
               have p29 : 0 ≤ (x22_2 : Int) := of_decide_eq_true (by first | (with_reducible assumption) | assumption)
               have q29 : x22_2 < (a0.size : Int) := of_decide_eq_true (by first | (with_reducible assumption) | assumption)
               have hx29 := bt_at a0 x22_2
               replace p29 := eq_true p29
               replace q29 := eq_true q29
               go_wp2
               go_roundg kj12
               case measure => have := HJ1.out; have := HK2.out; have := HJ12.out; omega
               case rel => exact ⟨(false), (x4_2 ++ (⟨#[96]⟩ : ByteArray)), (wrap64 (x22_2 + 1)), (by first | rfl | (simp; done) | (simp [*]; done) | (simp [bne, beq_nil_E]; done)), (by first | rfl | (simp; done) | (simp [*]; done) | (simp [bne, beq_nil_E]; done)), (by first | rfl | (simp; done) | (simp [*]; done) | (simp [bne, beq_nil_E]; done)), H', ⟨by have := HJ1.out; have := HK2.out; have := HJ12.out; omega⟩, ⟨by repeat (with_reducible first | exact HB.out | apply below_alloc | apply pw_below_drewN | apply below_drew1)⟩⟩
              ·
               rw [if_neg c31] at H
               exact absurd H (by simp)
             ·
              rw [if_neg c30] at H
              have c30b0 : ((bt a0 x22_2) == 96) = false := beq_eq_false_iff_ne.mpr c30
              have c30b1 : ((bt a0 x22_2) != 96) = true := bne_iff_ne.mpr c30
              have H' := Aside0.mk H
              clear H
              have p29 : 0 ≤ (x22_2 : Int) := of_decide_eq_true (by first | (with_reducible assumption) | assumption)
              have q29 : x22_2 < (a0.size : Int) := of_decide_eq_true (by first | (with_reducible assumption) | assumption)
              have hx29 := bt_at a0 x22_2
              replace p29 := eq_true p29
              replace q29 := eq_true q29
              go_wp2
              go_roundg kj12
              case measure => have := HJ1.out; have := HK2.out; have := HJ12.out; omega
              case rel => exact ⟨(false), (x4_2), (wrap64 (x22_2 + 1)), (by first | rfl | (simp; done) | (simp [*]; done) | (simp [bne, beq_nil_E]; done)), (by first | rfl | (simp; done) | (simp [*]; done) | (simp [bne, beq_nil_E]; done)), (by first | rfl | (simp; done) | (simp [*]; done) | (simp [bne, beq_nil_E]; done)), H', ⟨by have := HJ1.out; have := HK2.out; have := HJ12.out; omega⟩, ⟨by repeat (with_reducible first | exact HB.out | apply below_alloc | apply pw_below_drewN | apply below_drew1)⟩⟩
            ·
             rw [if_neg c28] at H
             exact absurd H (by simp)
           ·
            rw [if_neg c27] at H
            exact absurd H (by simp)
      ·
       rw [if_neg c12] at H
       have c12b0 : decide (x22_2 < (a0.size : Int)) = false := decide_eq_false c12
       clear c12
       by_cases c32 : x4_2.size + 1 ≤ 9223372036854775807
       ·
        rw [if_pos c32] at H
        have c32b0 := eq_true c32
        have c32b1 : decide (x4_2.size + 1 ≤ 9223372036854775807) = true := decide_eq_true c32
        try have c32b2 : (9223372036854775807 < x4_2.size + 1) = False := eq_false (Nat.not_lt.2 c32)
        by_cases c33 : (x4_2 ++ (⟨#[32]⟩ : ByteArray)).size + a0.size ≤ 9223372036854775807
        ·
         rw [if_pos c33] at H
         have c33b0 := eq_true c33
         have c33b1 : decide ((x4_2 ++ (⟨#[32]⟩ : ByteArray)).size + a0.size ≤ 9223372036854775807) = true := decide_eq_true c33
         try have c33b2 : (9223372036854775807 < (x4_2 ++ (⟨#[32]⟩ : ByteArray)).size + a0.size) = False := eq_false (Nat.not_lt.2 c33)
         (try (have c33s := c33; simp only [ByteArray.size_append, lit_size, List.length_cons, List.length_nil, Nat.zero_add, Nat.reduceAdd] at c33s; have c33s0 := eq_true c33s; have c33s1 := decide_eq_true c33s; have c33s2 := eq_false (Nat.not_lt.2 c33s); clear c33s))
         by_cases c34 : ((x4_2 ++ (⟨#[32]⟩ : ByteArray)) ++ a0).size + 1 ≤ 9223372036854775807
         ·
          rw [if_pos c34] at H
          have c34b0 := eq_true c34
          have c34b1 : decide (((x4_2 ++ (⟨#[32]⟩ : ByteArray)) ++ a0).size + 1 ≤ 9223372036854775807) = true := decide_eq_true c34
          try have c34b2 : (9223372036854775807 < ((x4_2 ++ (⟨#[32]⟩ : ByteArray)) ++ a0).size + 1) = False := eq_false (Nat.not_lt.2 c34)
          (try (have c34s := c34; simp only [ByteArray.size_append, lit_size, List.length_cons, List.length_nil, Nat.zero_add, Nat.reduceAdd] at c34s; have c34s0 := eq_true c34s; have c34s1 := decide_eq_true c34s; have c34s2 := eq_false (Nat.not_lt.2 c34s); clear c34s))
          by_cases c35 : (((x4_2 ++ (⟨#[32]⟩ : ByteArray)) ++ a0) ++ (⟨#[32]⟩ : ByteArray)).size + x4_2.size ≤ 9223372036854775807
          ·
           rw [if_pos c35] at H
           have c35b0 := eq_true c35
           have c35b1 : decide ((((x4_2 ++ (⟨#[32]⟩ : ByteArray)) ++ a0) ++ (⟨#[32]⟩ : ByteArray)).size + x4_2.size ≤ 9223372036854775807) = true := decide_eq_true c35
           try have c35b2 : (9223372036854775807 < (((x4_2 ++ (⟨#[32]⟩ : ByteArray)) ++ a0) ++ (⟨#[32]⟩ : ByteArray)).size + x4_2.size) = False := eq_false (Nat.not_lt.2 c35)
           (try (have c35s := c35; simp only [ByteArray.size_append, lit_size, List.length_cons, List.length_nil, Nat.zero_add, Nat.reduceAdd] at c35s; have c35s0 := eq_true c35s; have c35s1 := decide_eq_true c35s; have c35s2 := eq_false (Nat.not_lt.2 c35s); clear c35s))
           replace H := Option.bind_eq_some_iff.mp H
           obtain ⟨t258, A360, H⟩ := H
           replace H : (if x3_2 = true then (if 1 + a0.size ≤ 9223372036854775807 then (if ((⟨#[32]⟩ : ByteArray) ++ a0).size + 1 ≤ 9223372036854775807 then (if (t258.length : Int) = 1 then (if 0 < (t258.length : Int) then (if ((rd_T26 t258 0).f0) = 2 then (some (((rd_T26 t258 0).f1).toList == (((⟨#[32]⟩ : ByteArray) ++ a0) ++ (⟨#[32]⟩ : ByteArray)).toList)) else (some false)) else (none)) else (some false)) else (none)) else (none)) else (if (t258.length : Int) = 1 then (if 0 < (t258.length : Int) then (if ((rd_T26 t258 0).f0) = 2 then (some (((rd_T26 t258 0).f1).toList == a0.toList)) else (some false)) else (none)) else (some false))) = some r := H
           have A36 := Aside0.mk A360
           clear A360
           by_cases c37 : x3_2 = true
           ·
            subst c37
            have H1 : (if 1 + a0.size ≤ 9223372036854775807 then (if ((⟨#[32]⟩ : ByteArray) ++ a0).size + 1 ≤ 9223372036854775807 then (if (t258.length : Int) = 1 then (if 0 < (t258.length : Int) then (if ((rd_T26 t258 0).f0) = 2 then (some (((rd_T26 t258 0).f1).toList == (((⟨#[32]⟩ : ByteArray) ++ a0) ++ (⟨#[32]⟩ : ByteArray)).toList)) else (some false)) else (none)) else (some false)) else (none)) else (none)) = some r := by rw [if_pos rfl] at H; exact H
            clear H
            have H := H1
            clear H1
            by_cases c38 : 1 + a0.size ≤ 9223372036854775807
            ·
             rw [if_pos c38] at H
             have c38b0 := eq_true c38
             have c38b1 : decide (1 + a0.size ≤ 9223372036854775807) = true := decide_eq_true c38
             try have c38b2 : (9223372036854775807 < 1 + a0.size) = False := eq_false (Nat.not_lt.2 c38)
             by_cases c39 : ((⟨#[32]⟩ : ByteArray) ++ a0).size + 1 ≤ 9223372036854775807
             ·
              rw [if_pos c39] at H
              have c39b0 := eq_true c39
              have c39b1 : decide (((⟨#[32]⟩ : ByteArray) ++ a0).size + 1 ≤ 9223372036854775807) = true := decide_eq_true c39
              try have c39b2 : (9223372036854775807 < ((⟨#[32]⟩ : ByteArray) ++ a0).size + 1) = False := eq_false (Nat.not_lt.2 c39)
              (try (have c39s := c39; simp only [ByteArray.size_append, lit_size, List.length_cons, List.length_nil, Nat.zero_add, Nat.reduceAdd] at c39s; have c39s0 := eq_true c39s; have c39s1 := decide_eq_true c39s; have c39s2 := eq_false (Nat.not_lt.2 c39s); clear c39s))
              by_cases c40 : (t258.length : Int) = 1
              ·
               rw [if_pos c40] at H
               have c40b0 : ((t258.length : Int) == 1) = true := beq_iff_eq.mpr c40
               have c40b1 : ((t258.length : Int) != 1) = false := bne_eq_false_iff_eq.mpr c40
               clear c40
               by_cases c41 : 0 < (t258.length : Int)
               ·
                rw [if_pos c41] at H
                have c41b0 : decide (0 < (t258.length : Int)) = true := decide_eq_true c41
                have c41b1 : decide (0 < t258.length) = true := decide_eq_true (by omega)
                clear c41
                by_cases c42 : ((rd_T26 t258 0).f0) = 2
                ·
                 rw [if_pos c42] at H
                 have c42b0 : (((rd_T26 t258 0).f0) == 2) = true := beq_iff_eq.mpr c42
                 have c42b1 : (((rd_T26 t258 0).f0) != 2) = false := bne_eq_false_iff_eq.mpr c42
                 clear c42
                 obtain rfl := Option.some.inj H
                 go_wp2_with (first | ((with_reducible refine gate_callee (f := 21) rfl ?_); refine goesL_ (some 56) rfl rfl Tryd.func21 (by kernel_rfl) rfl #[.string ((((x4_2 ++ (⟨#[32]⟩ : ByteArray)) ++ a0) ++ (⟨#[32]⟩ : ByteArray)) ++ x4_2)] rfl (by (try simp only [List.map_toArray, List.map_cons, List.map_nil]); first | done | rfl | (simp only [List.length_drop, List.length_take]; rfl)) ?_; (with_reducible refine (spanin_Parse.calls ((((x4_2 ++ (⟨#[32]⟩ : ByteArray)) ++ a0) ++ (⟨#[32]⟩ : ByteArray)) ++ x4_2) t258 _ ?side1 A36.out).mono ?_); (case side1 => first | exact HT.out | exact Tabs.at HT.out (by repeat (with_reducible first | exact HB.out | apply below_alloc | apply pw_below_drewN | apply below_drew1))); rintro e w43 ⟨v259, rfl, ho0, hb⟩; refine ⟨_, rfl, ?_⟩; have n0_ := Aside0.mk (Kd.R_lower ho0 (below_size (by repeat (with_reducible first | exact HB.out | apply below_alloc | apply pw_below_drewN | apply below_drew1)))); have n1_ := Aside0.mk (below_step (by repeat (with_reducible first | exact HB.out | apply below_alloc | apply pw_below_drewN | apply below_drew1)) hb); clear HB; have HO260 := n0_; have HB := n1_; clear n0_ n1_; (try clear hb); (try clear hb2); (try clear hk); (try clear hi); (try clear ho0); obtain ⟨Ao44, co44, eo44⟩ := Kd.R_slice HO260.out; subst eo44; have p261 : 0 ≤ (0 : Int) := (by omega); have q261 : 0 < (t258.length : Int) := of_decide_eq_true (by first | (with_reducible assumption) | assumption); obtain ⟨ad261, A261_2, c261_2, e261, hx261_0, hx261_1, hx261_2, hl261_2, hi261_2⟩ := at_T26 (Kd.R_reads' HO260.out).2.2 0 p261 q261; cases e261; obtain ⟨ce261, hce261, hMe261, hcc261⟩ := Kd.R_get HO260.out z26 0 p261 (by first | exact q261 | exact of_decide_eq_true (by first | (with_reducible assumption) | assumption) | (have e_ := (Kd.R_reads' HO260.out).1; omega)); obtain ⟨ve261_2, rfl, ge261_2⟩ := k26_openM hMe261; have hv261_2 := hcc261 2 _ rfl; rw [add_field _ _ 2 (by omega)] at hv261_2; replace hv261_2 := Option.some.inj (hv261_2.symm.trans hx261_2); rw [hv261_2] at ge261_2; have HL261_2 := Aside0.mk (show Kd.R k26 26 _ _ _ _ ((rd_T26 t258 0).f2) from ge261_2); clear hv261_2 ge261_2; clear hcc261 hce261; have qi261 : (0 < t258.length) = True := eq_true (by omega); (try rw [show ((0 : Int)).toNat = 0 from rfl] at hx261_0); (try rw [show 0 * 3 = 0 from rfl] at hx261_0); (try rw [Addr.add_zero'] at hx261_0); (try rw [show ((0 : Int)).toNat = 0 from rfl] at hx261_1); (try rw [show 0 * 3 = 0 from rfl] at hx261_1); (try rw [Addr.add_zero'] at hx261_1); (try rw [show ((0 : Int)).toNat = 0 from rfl] at hx261_2); (try rw [show 0 * 3 = 0 from rfl] at hx261_2); (try rw [Addr.add_zero'] at hx261_2); have HR261_2 := Aside0.mk hi261_2; have HC261_2 := Aside0.mk hl261_2; clear hi261_2 hl261_2; replace p261 := eq_true p261; replace q261 := eq_true q261; have p262 : 0 ≤ (0 : Int) := (by omega); have q262 : 0 < (t258.length : Int) := of_decide_eq_true (by first | (with_reducible assumption) | assumption); obtain ⟨ad262, A262_2, c262_2, e262, hx262_0, hx262_1, hx262_2, hl262_2, hi262_2⟩ := at_T26 (Kd.R_reads' HO260.out).2.2 0 p262 q262; obtain rfl : ad261 = ad262 := (by injection e262); obtain ⟨ce262, hce262, hMe262, hcc262⟩ := Kd.R_get HO260.out z26 0 p262 (by first | exact q262 | exact of_decide_eq_true (by first | (with_reducible assumption) | assumption) | (have e_ := (Kd.R_reads' HO260.out).1; omega)); obtain ⟨ve262_2, rfl, ge262_2⟩ := k26_openM hMe262; have hv262_2 := hcc262 2 _ rfl; rw [add_field _ _ 2 (by omega)] at hv262_2; replace hv262_2 := Option.some.inj (hv262_2.symm.trans hx262_2); rw [hv262_2] at ge262_2; have HL262_2 := Aside0.mk (show Kd.R k26 26 _ _ _ _ ((rd_T26 t258 0).f2) from ge262_2); clear hv262_2 ge262_2; clear hcc262 hce262; have qi262 : (0 < t258.length) = True := eq_true (by omega); (try rw [show ((0 : Int)).toNat = 0 from rfl] at hx262_0); (try rw [show 0 * 3 = 0 from rfl] at hx262_0); (try rw [Addr.add_zero'] at hx262_0); (try rw [show ((0 : Int)).toNat = 0 from rfl] at hx262_1); (try rw [show 0 * 3 = 0 from rfl] at hx262_1); (try rw [Addr.add_zero'] at hx262_1); (try rw [show ((0 : Int)).toNat = 0 from rfl] at hx262_2); (try rw [show 0 * 3 = 0 from rfl] at hx262_2); (try rw [Addr.add_zero'] at hx262_2); have HR262_2 := Aside0.mk hi262_2; have HC262_2 := Aside0.mk hl262_2; clear hi262_2 hl262_2; replace p262 := eq_true p262; replace q262 := eq_true q262; have ea_ := Option.some.inj (hx261_2.symm.trans hx262_2); injection ea_ with ea_ en_ ec_; subst ea_; subst ec_; clear en_))
                 go_ret
                 exact ⟨by first | rfl | (simp [errW_none, errW_some] <;> rfl) | (simp [*, errW_none, errW_some] <;> rfl), by repeat (with_reducible first | exact HB.out | apply below_alloc | apply pw_below_drewN | apply below_drew1)⟩
                ·
                 rw [if_neg c42] at H
                 have c42b0 : (((rd_T26 t258 0).f0) == 2) = false := beq_eq_false_iff_ne.mpr c42
                 have c42b1 : (((rd_T26 t258 0).f0) != 2) = true := bne_iff_ne.mpr c42
                 obtain rfl := Option.some.inj H
                 go_wp2_with (first | ((with_reducible refine gate_callee (f := 21) rfl ?_); refine goesL_ (some 56) rfl rfl Tryd.func21 (by kernel_rfl) rfl #[.string ((((x4_2 ++ (⟨#[32]⟩ : ByteArray)) ++ a0) ++ (⟨#[32]⟩ : ByteArray)) ++ x4_2)] rfl (by (try simp only [List.map_toArray, List.map_cons, List.map_nil]); first | done | rfl | (simp only [List.length_drop, List.length_take]; rfl)) ?_; (with_reducible refine (spanin_Parse.calls ((((x4_2 ++ (⟨#[32]⟩ : ByteArray)) ++ a0) ++ (⟨#[32]⟩ : ByteArray)) ++ x4_2) t258 _ ?side1 A36.out).mono ?_); (case side1 => first | exact HT.out | exact Tabs.at HT.out (by repeat (with_reducible first | exact HB.out | apply below_alloc | apply pw_below_drewN | apply below_drew1))); rintro e w45 ⟨v259, rfl, ho0, hb⟩; refine ⟨_, rfl, ?_⟩; have n0_ := Aside0.mk (Kd.R_lower ho0 (below_size (by repeat (with_reducible first | exact HB.out | apply below_alloc | apply pw_below_drewN | apply below_drew1)))); have n1_ := Aside0.mk (below_step (by repeat (with_reducible first | exact HB.out | apply below_alloc | apply pw_below_drewN | apply below_drew1)) hb); clear HB; have HO260 := n0_; have HB := n1_; clear n0_ n1_; (try clear hb); (try clear hb2); (try clear hk); (try clear hi); (try clear ho0); obtain ⟨Ao46, co46, eo46⟩ := Kd.R_slice HO260.out; subst eo46; have p261 : 0 ≤ (0 : Int) := (by omega); have q261 : 0 < (t258.length : Int) := of_decide_eq_true (by first | (with_reducible assumption) | assumption); obtain ⟨ad261, A261_2, c261_2, e261, hx261_0, hx261_1, hx261_2, hl261_2, hi261_2⟩ := at_T26 (Kd.R_reads' HO260.out).2.2 0 p261 q261; cases e261; obtain ⟨ce261, hce261, hMe261, hcc261⟩ := Kd.R_get HO260.out z26 0 p261 (by first | exact q261 | exact of_decide_eq_true (by first | (with_reducible assumption) | assumption) | (have e_ := (Kd.R_reads' HO260.out).1; omega)); obtain ⟨ve261_2, rfl, ge261_2⟩ := k26_openM hMe261; have hv261_2 := hcc261 2 _ rfl; rw [add_field _ _ 2 (by omega)] at hv261_2; replace hv261_2 := Option.some.inj (hv261_2.symm.trans hx261_2); rw [hv261_2] at ge261_2; have HL261_2 := Aside0.mk (show Kd.R k26 26 _ _ _ _ ((rd_T26 t258 0).f2) from ge261_2); clear hv261_2 ge261_2; clear hcc261 hce261; have qi261 : (0 < t258.length) = True := eq_true (by omega); (try rw [show ((0 : Int)).toNat = 0 from rfl] at hx261_0); (try rw [show 0 * 3 = 0 from rfl] at hx261_0); (try rw [Addr.add_zero'] at hx261_0); (try rw [show ((0 : Int)).toNat = 0 from rfl] at hx261_1); (try rw [show 0 * 3 = 0 from rfl] at hx261_1); (try rw [Addr.add_zero'] at hx261_1); (try rw [show ((0 : Int)).toNat = 0 from rfl] at hx261_2); (try rw [show 0 * 3 = 0 from rfl] at hx261_2); (try rw [Addr.add_zero'] at hx261_2); have HR261_2 := Aside0.mk hi261_2; have HC261_2 := Aside0.mk hl261_2; clear hi261_2 hl261_2; replace p261 := eq_true p261; replace q261 := eq_true q261))
                 go_ret
                 exact ⟨by first | rfl | (simp [errW_none, errW_some] <;> rfl) | (simp [*, errW_none, errW_some] <;> rfl), by repeat (with_reducible first | exact HB.out | apply below_alloc | apply pw_below_drewN | apply below_drew1)⟩
               ·
                rw [if_neg c41] at H
                exact absurd H (by simp)
              ·
               rw [if_neg c40] at H
               have c40b0 : ((t258.length : Int) == 1) = false := beq_eq_false_iff_ne.mpr c40
               have c40b1 : ((t258.length : Int) != 1) = true := bne_iff_ne.mpr c40
               obtain rfl := Option.some.inj H
               go_wp2_with (first | ((with_reducible refine gate_callee (f := 21) rfl ?_); refine goesL_ (some 56) rfl rfl Tryd.func21 (by kernel_rfl) rfl #[.string ((((x4_2 ++ (⟨#[32]⟩ : ByteArray)) ++ a0) ++ (⟨#[32]⟩ : ByteArray)) ++ x4_2)] rfl (by (try simp only [List.map_toArray, List.map_cons, List.map_nil]); first | done | rfl | (simp only [List.length_drop, List.length_take]; rfl)) ?_; (with_reducible refine (spanin_Parse.calls ((((x4_2 ++ (⟨#[32]⟩ : ByteArray)) ++ a0) ++ (⟨#[32]⟩ : ByteArray)) ++ x4_2) t258 _ ?side1 A36.out).mono ?_); (case side1 => first | exact HT.out | exact Tabs.at HT.out (by repeat (with_reducible first | exact HB.out | apply below_alloc | apply pw_below_drewN | apply below_drew1))); rintro e w47 ⟨v259, rfl, ho0, hb⟩; refine ⟨_, rfl, ?_⟩; have n0_ := Aside0.mk (Kd.R_lower ho0 (below_size (by repeat (with_reducible first | exact HB.out | apply below_alloc | apply pw_below_drewN | apply below_drew1)))); have n1_ := Aside0.mk (below_step (by repeat (with_reducible first | exact HB.out | apply below_alloc | apply pw_below_drewN | apply below_drew1)) hb); clear HB; have HO260 := n0_; have HB := n1_; clear n0_ n1_; (try clear hb); (try clear hb2); (try clear hk); (try clear hi); (try clear ho0); obtain ⟨Ao48, co48, eo48⟩ := Kd.R_slice HO260.out; subst eo48))
               go_ret
               exact ⟨by first | rfl | (simp [errW_none, errW_some] <;> rfl) | (simp [*, errW_none, errW_some] <;> rfl), by repeat (with_reducible first | exact HB.out | apply below_alloc | apply pw_below_drewN | apply below_drew1)⟩
             ·
              rw [if_neg c39] at H
              exact absurd H (by simp)
            ·
             rw [if_neg c38] at H
             exact absurd H (by simp)
           ·
            replace c37 := Bool.eq_false_iff.mpr c37
            subst c37
            have H1 : (if (t258.length : Int) = 1 then (if 0 < (t258.length : Int) then (if ((rd_T26 t258 0).f0) = 2 then (some (((rd_T26 t258 0).f1).toList == a0.toList)) else (some false)) else (none)) else (some false)) = some r := by rw [if_neg (show ¬ (false = true) by decide)] at H; exact H
            clear H
            have H := H1
            clear H1
            by_cases c49 : (t258.length : Int) = 1
            ·
             rw [if_pos c49] at H
             have c49b0 : ((t258.length : Int) == 1) = true := beq_iff_eq.mpr c49
             have c49b1 : ((t258.length : Int) != 1) = false := bne_eq_false_iff_eq.mpr c49
             clear c49
             by_cases c50 : 0 < (t258.length : Int)
             ·
              rw [if_pos c50] at H
              have c50b0 : decide (0 < (t258.length : Int)) = true := decide_eq_true c50
              have c50b1 : decide (0 < t258.length) = true := decide_eq_true (by omega)
              clear c50
              by_cases c51 : ((rd_T26 t258 0).f0) = 2
              ·
               rw [if_pos c51] at H
               have c51b0 : (((rd_T26 t258 0).f0) == 2) = true := beq_iff_eq.mpr c51
               have c51b1 : (((rd_T26 t258 0).f0) != 2) = false := bne_eq_false_iff_eq.mpr c51
               clear c51
               obtain rfl := Option.some.inj H
               go_wp2_with (first | ((with_reducible refine gate_callee (f := 21) rfl ?_); refine goesL_ (some 56) rfl rfl Tryd.func21 (by kernel_rfl) rfl #[.string ((((x4_2 ++ (⟨#[32]⟩ : ByteArray)) ++ a0) ++ (⟨#[32]⟩ : ByteArray)) ++ x4_2)] rfl (by (try simp only [List.map_toArray, List.map_cons, List.map_nil]); first | done | rfl | (simp only [List.length_drop, List.length_take]; rfl)) ?_; (with_reducible refine (spanin_Parse.calls ((((x4_2 ++ (⟨#[32]⟩ : ByteArray)) ++ a0) ++ (⟨#[32]⟩ : ByteArray)) ++ x4_2) t258 _ ?side1 A36.out).mono ?_); (case side1 => first | exact HT.out | exact Tabs.at HT.out (by repeat (with_reducible first | exact HB.out | apply below_alloc | apply pw_below_drewN | apply below_drew1))); rintro e w52 ⟨v259, rfl, ho0, hb⟩; refine ⟨_, rfl, ?_⟩; have n0_ := Aside0.mk (Kd.R_lower ho0 (below_size (by repeat (with_reducible first | exact HB.out | apply below_alloc | apply pw_below_drewN | apply below_drew1)))); have n1_ := Aside0.mk (below_step (by repeat (with_reducible first | exact HB.out | apply below_alloc | apply pw_below_drewN | apply below_drew1)) hb); clear HB; have HO260 := n0_; have HB := n1_; clear n0_ n1_; (try clear hb); (try clear hb2); (try clear hk); (try clear hi); (try clear ho0); obtain ⟨Ao53, co53, eo53⟩ := Kd.R_slice HO260.out; subst eo53; have p263 : 0 ≤ (0 : Int) := (by omega); have q263 : 0 < (t258.length : Int) := of_decide_eq_true (by first | (with_reducible assumption) | assumption); obtain ⟨ad263, A263_2, c263_2, e263, hx263_0, hx263_1, hx263_2, hl263_2, hi263_2⟩ := at_T26 (Kd.R_reads' HO260.out).2.2 0 p263 q263; cases e263; obtain ⟨ce263, hce263, hMe263, hcc263⟩ := Kd.R_get HO260.out z26 0 p263 (by first | exact q263 | exact of_decide_eq_true (by first | (with_reducible assumption) | assumption) | (have e_ := (Kd.R_reads' HO260.out).1; omega)); obtain ⟨ve263_2, rfl, ge263_2⟩ := k26_openM hMe263; have hv263_2 := hcc263 2 _ rfl; rw [add_field _ _ 2 (by omega)] at hv263_2; replace hv263_2 := Option.some.inj (hv263_2.symm.trans hx263_2); rw [hv263_2] at ge263_2; have HL263_2 := Aside0.mk (show Kd.R k26 26 _ _ _ _ ((rd_T26 t258 0).f2) from ge263_2); clear hv263_2 ge263_2; clear hcc263 hce263; have qi263 : (0 < t258.length) = True := eq_true (by omega); (try rw [show ((0 : Int)).toNat = 0 from rfl] at hx263_0); (try rw [show 0 * 3 = 0 from rfl] at hx263_0); (try rw [Addr.add_zero'] at hx263_0); (try rw [show ((0 : Int)).toNat = 0 from rfl] at hx263_1); (try rw [show 0 * 3 = 0 from rfl] at hx263_1); (try rw [Addr.add_zero'] at hx263_1); (try rw [show ((0 : Int)).toNat = 0 from rfl] at hx263_2); (try rw [show 0 * 3 = 0 from rfl] at hx263_2); (try rw [Addr.add_zero'] at hx263_2); have HR263_2 := Aside0.mk hi263_2; have HC263_2 := Aside0.mk hl263_2; clear hi263_2 hl263_2; replace p263 := eq_true p263; replace q263 := eq_true q263; have p264 : 0 ≤ (0 : Int) := (by omega); have q264 : 0 < (t258.length : Int) := of_decide_eq_true (by first | (with_reducible assumption) | assumption); obtain ⟨ad264, A264_2, c264_2, e264, hx264_0, hx264_1, hx264_2, hl264_2, hi264_2⟩ := at_T26 (Kd.R_reads' HO260.out).2.2 0 p264 q264; obtain rfl : ad263 = ad264 := (by injection e264); obtain ⟨ce264, hce264, hMe264, hcc264⟩ := Kd.R_get HO260.out z26 0 p264 (by first | exact q264 | exact of_decide_eq_true (by first | (with_reducible assumption) | assumption) | (have e_ := (Kd.R_reads' HO260.out).1; omega)); obtain ⟨ve264_2, rfl, ge264_2⟩ := k26_openM hMe264; have hv264_2 := hcc264 2 _ rfl; rw [add_field _ _ 2 (by omega)] at hv264_2; replace hv264_2 := Option.some.inj (hv264_2.symm.trans hx264_2); rw [hv264_2] at ge264_2; have HL264_2 := Aside0.mk (show Kd.R k26 26 _ _ _ _ ((rd_T26 t258 0).f2) from ge264_2); clear hv264_2 ge264_2; clear hcc264 hce264; have qi264 : (0 < t258.length) = True := eq_true (by omega); (try rw [show ((0 : Int)).toNat = 0 from rfl] at hx264_0); (try rw [show 0 * 3 = 0 from rfl] at hx264_0); (try rw [Addr.add_zero'] at hx264_0); (try rw [show ((0 : Int)).toNat = 0 from rfl] at hx264_1); (try rw [show 0 * 3 = 0 from rfl] at hx264_1); (try rw [Addr.add_zero'] at hx264_1); (try rw [show ((0 : Int)).toNat = 0 from rfl] at hx264_2); (try rw [show 0 * 3 = 0 from rfl] at hx264_2); (try rw [Addr.add_zero'] at hx264_2); have HR264_2 := Aside0.mk hi264_2; have HC264_2 := Aside0.mk hl264_2; clear hi264_2 hl264_2; replace p264 := eq_true p264; replace q264 := eq_true q264; have ea_ := Option.some.inj (hx263_2.symm.trans hx264_2); injection ea_ with ea_ en_ ec_; subst ea_; subst ec_; clear en_))
               go_ret
               exact ⟨by first | rfl | (simp [errW_none, errW_some] <;> rfl) | (simp [*, errW_none, errW_some] <;> rfl), by repeat (with_reducible first | exact HB.out | apply below_alloc | apply pw_below_drewN | apply below_drew1)⟩
              ·
               rw [if_neg c51] at H
               have c51b0 : (((rd_T26 t258 0).f0) == 2) = false := beq_eq_false_iff_ne.mpr c51
               have c51b1 : (((rd_T26 t258 0).f0) != 2) = true := bne_iff_ne.mpr c51
               obtain rfl := Option.some.inj H
               go_wp2_with (first | ((with_reducible refine gate_callee (f := 21) rfl ?_); refine goesL_ (some 56) rfl rfl Tryd.func21 (by kernel_rfl) rfl #[.string ((((x4_2 ++ (⟨#[32]⟩ : ByteArray)) ++ a0) ++ (⟨#[32]⟩ : ByteArray)) ++ x4_2)] rfl (by (try simp only [List.map_toArray, List.map_cons, List.map_nil]); first | done | rfl | (simp only [List.length_drop, List.length_take]; rfl)) ?_; (with_reducible refine (spanin_Parse.calls ((((x4_2 ++ (⟨#[32]⟩ : ByteArray)) ++ a0) ++ (⟨#[32]⟩ : ByteArray)) ++ x4_2) t258 _ ?side1 A36.out).mono ?_); (case side1 => first | exact HT.out | exact Tabs.at HT.out (by repeat (with_reducible first | exact HB.out | apply below_alloc | apply pw_below_drewN | apply below_drew1))); rintro e w54 ⟨v259, rfl, ho0, hb⟩; refine ⟨_, rfl, ?_⟩; have n0_ := Aside0.mk (Kd.R_lower ho0 (below_size (by repeat (with_reducible first | exact HB.out | apply below_alloc | apply pw_below_drewN | apply below_drew1)))); have n1_ := Aside0.mk (below_step (by repeat (with_reducible first | exact HB.out | apply below_alloc | apply pw_below_drewN | apply below_drew1)) hb); clear HB; have HO260 := n0_; have HB := n1_; clear n0_ n1_; (try clear hb); (try clear hb2); (try clear hk); (try clear hi); (try clear ho0); obtain ⟨Ao55, co55, eo55⟩ := Kd.R_slice HO260.out; subst eo55; have p263 : 0 ≤ (0 : Int) := (by omega); have q263 : 0 < (t258.length : Int) := of_decide_eq_true (by first | (with_reducible assumption) | assumption); obtain ⟨ad263, A263_2, c263_2, e263, hx263_0, hx263_1, hx263_2, hl263_2, hi263_2⟩ := at_T26 (Kd.R_reads' HO260.out).2.2 0 p263 q263; cases e263; obtain ⟨ce263, hce263, hMe263, hcc263⟩ := Kd.R_get HO260.out z26 0 p263 (by first | exact q263 | exact of_decide_eq_true (by first | (with_reducible assumption) | assumption) | (have e_ := (Kd.R_reads' HO260.out).1; omega)); obtain ⟨ve263_2, rfl, ge263_2⟩ := k26_openM hMe263; have hv263_2 := hcc263 2 _ rfl; rw [add_field _ _ 2 (by omega)] at hv263_2; replace hv263_2 := Option.some.inj (hv263_2.symm.trans hx263_2); rw [hv263_2] at ge263_2; have HL263_2 := Aside0.mk (show Kd.R k26 26 _ _ _ _ ((rd_T26 t258 0).f2) from ge263_2); clear hv263_2 ge263_2; clear hcc263 hce263; have qi263 : (0 < t258.length) = True := eq_true (by omega); (try rw [show ((0 : Int)).toNat = 0 from rfl] at hx263_0); (try rw [show 0 * 3 = 0 from rfl] at hx263_0); (try rw [Addr.add_zero'] at hx263_0); (try rw [show ((0 : Int)).toNat = 0 from rfl] at hx263_1); (try rw [show 0 * 3 = 0 from rfl] at hx263_1); (try rw [Addr.add_zero'] at hx263_1); (try rw [show ((0 : Int)).toNat = 0 from rfl] at hx263_2); (try rw [show 0 * 3 = 0 from rfl] at hx263_2); (try rw [Addr.add_zero'] at hx263_2); have HR263_2 := Aside0.mk hi263_2; have HC263_2 := Aside0.mk hl263_2; clear hi263_2 hl263_2; replace p263 := eq_true p263; replace q263 := eq_true q263))
               go_ret
               exact ⟨by first | rfl | (simp [errW_none, errW_some] <;> rfl) | (simp [*, errW_none, errW_some] <;> rfl), by repeat (with_reducible first | exact HB.out | apply below_alloc | apply pw_below_drewN | apply below_drew1)⟩
             ·
              rw [if_neg c50] at H
              exact absurd H (by simp)
            ·
             rw [if_neg c49] at H
             have c49b0 : ((t258.length : Int) == 1) = false := beq_eq_false_iff_ne.mpr c49
             have c49b1 : ((t258.length : Int) != 1) = true := bne_iff_ne.mpr c49
             obtain rfl := Option.some.inj H
             go_wp2_with (first | ((with_reducible refine gate_callee (f := 21) rfl ?_); refine goesL_ (some 56) rfl rfl Tryd.func21 (by kernel_rfl) rfl #[.string ((((x4_2 ++ (⟨#[32]⟩ : ByteArray)) ++ a0) ++ (⟨#[32]⟩ : ByteArray)) ++ x4_2)] rfl (by (try simp only [List.map_toArray, List.map_cons, List.map_nil]); first | done | rfl | (simp only [List.length_drop, List.length_take]; rfl)) ?_; (with_reducible refine (spanin_Parse.calls ((((x4_2 ++ (⟨#[32]⟩ : ByteArray)) ++ a0) ++ (⟨#[32]⟩ : ByteArray)) ++ x4_2) t258 _ ?side1 A36.out).mono ?_); (case side1 => first | exact HT.out | exact Tabs.at HT.out (by repeat (with_reducible first | exact HB.out | apply below_alloc | apply pw_below_drewN | apply below_drew1))); rintro e w56 ⟨v259, rfl, ho0, hb⟩; refine ⟨_, rfl, ?_⟩; have n0_ := Aside0.mk (Kd.R_lower ho0 (below_size (by repeat (with_reducible first | exact HB.out | apply below_alloc | apply pw_below_drewN | apply below_drew1)))); have n1_ := Aside0.mk (below_step (by repeat (with_reducible first | exact HB.out | apply below_alloc | apply pw_below_drewN | apply below_drew1)) hb); clear HB; have HO260 := n0_; have HB := n1_; clear n0_ n1_; (try clear hb); (try clear hb2); (try clear hk); (try clear hi); (try clear ho0); obtain ⟨Ao57, co57, eo57⟩ := Kd.R_slice HO260.out; subst eo57))
             go_ret
             exact ⟨by first | rfl | (simp [errW_none, errW_some] <;> rfl) | (simp [*, errW_none, errW_some] <;> rfl), by repeat (with_reducible first | exact HB.out | apply below_alloc | apply pw_below_drewN | apply below_drew1)⟩
          ·
           rw [if_neg c35] at H
           exact absurd H (by simp)
         ·
          rw [if_neg c34] at H
          exact absurd H (by simp)
        ·
         rw [if_neg c33] at H
         exact absurd H (by simp)
       ·
        rw [if_neg c32] at H
        exact absurd H (by simp)

-- GIVEN: function 18 (span_Right)

-- GIVEN: function 29 (emendationref07_Right)

end Go.Proofs.YtmfffpfenhgjbaaDoor.X
