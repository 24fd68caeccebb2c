-- Written by a program of this session (wip/mkprint.py over the kit's print) out of the translation; Lean checks it.
import Derived.Test.YtmfffpfenhgjbaaDoorX0
import Derived.Test.YtmfffpfenhgjbaaDoorX6
import Derived.Test.YtmfffpfenhgjbaaDoorX9
import Derived.Test.YtmfffpfenhgjbaaDoorGivenTabs
namespace Go.Proofs.YtmfffpfenhgjbaaDoor.X
open Go.RowKit Go.Proofs.YtmfffpfenhgjbaaDoor.G Go.Proofs.YtmfffpfenhgjbaaDoorW.PrintWords Go.Proofs.YtmfffpfenhgjbaaDoorW.PrintLast Go.Proofs.YtmfffpfenhgjbaaDoorW.PrintMore
attribute [local go_sem] max2_int min2_int max_two min_two max_three min_three max_four min_four   -- for this text's walks alone
set_option linter.unusedVariables false
set_option linter.unusedSimpArgs false

/-! ### emendationlaw08_SpaninShort: function 6 -/
mutual
def emendationlaw08_SpaninShort.j0 : Nat → ByteArray → Bool → Option (Bool)
 | 0, _, _ => none
 | k + 1, x0, x12 => if x12 = true then ((emendationlaw08_awake.f k).bind fun t234 => (some t234)) else ((spanin_Parse.f x0).bind fun t235 => ((emendationref07_Plain.f k t235).bind fun t238 => (emendationlaw08_SpaninShort.l0 k x0 t238 0 (t238.size : Int) 0)))
def emendationlaw08_SpaninShort.l0 : Nat → ByteArray → ByteArray → Int → Int → Int → Option (Bool)
 | 0, _, _, _, _, _ => none
 | k + 1, x0, x3, x4, x18, x19 => if x19 < x18 then (emendationlaw08_SpaninShort.l1 k x0 x3 x4 x19 x18 x19) else (some true)
def emendationlaw08_SpaninShort.l1 : Nat → ByteArray → ByteArray → Int → Int → Int → Int → Option (Bool)
 | 0, _, _, _, _, _, _ => none
 | k + 1, x0, x3, x4, x5, x18, x19 => if x4 < (x0.size : Int) then (if 0 ≤ x4 then (if 0 ≤ x5 then (if x5 < (x3.size : Int) then (if (bt x0 x4) = (bt x3 x5) then (if x4 = (x0.size : Int) then (some false) else (emendationlaw08_SpaninShort.l0 k x0 x3 (wrap64 (x4 + 1)) x18 (wrap64 (x19 + 1)))) else (emendationlaw08_SpaninShort.l1 k x0 x3 (wrap64 (x4 + 1)) x5 x18 x19)) else (none)) else (none)) else (none)) else (if x4 = (x0.size : Int) then (some false) else (emendationlaw08_SpaninShort.l0 k x0 x3 (wrap64 (x4 + 1)) x18 (wrap64 (x19 + 1))))
end
def emendationlaw08_SpaninShort.f (k : Nat) (a0 : ByteArray) : Option (Bool) := (emendationlaw08_awake.f k).bind fun t233 => (if t233 = true then (emendationlaw08_SpaninShort.j0 k a0 (decide ((a0.size : Int) > 300))) else (emendationlaw08_SpaninShort.j0 k a0 true))
set_option maxHeartbeats 8000000 in
set_option maxRecDepth 100000 in
theorem emendationlaw08_SpaninShort.calls (k : Nat) (a0 : ByteArray) (r : Bool) (w : World) (hT : Tabs w) (h : emendationlaw08_SpaninShort.f k a0 = some r) :
  Calls Tryd.prog 6 #[.string a0] w fun e w' => e = .returned (.bool r) ∧ Below w.heap.size w w' := by
 have HT := Aside0.mk hT
 clear hT
 have HB := Aside0.mk (Below.refl w.heap.size w)
 have H : ((emendationlaw08_awake.f k).bind fun t233 => (if t233 = true then (emendationlaw08_SpaninShort.j0 k a0 (decide ((a0.size : Int) > 300))) else (emendationlaw08_SpaninShort.j0 k a0 true))) = some r := h
 clear h
 have HC2 := Aside0.mk H
 clear H
 go_enter Tryd.func6, Tryd.ntmps6
 go_upto_region 1 with (fail)
 repeat (go_quiet (fail); go_upto_region 1 with (fail))
 go_cut [12] (fun v12 wc => ∃ (kq : Nat) (x12_1 : Bool), v12 = .bool x12_1 ∧ Aside0 (emendationlaw08_SpaninShort.j0 kq a0 x12_1 = some r) ∧ Aside0 (kq ≤ k) ∧ Aside0 (Below w.heap.size w wc))
 case first =>
  have H := HC2.out
  clear HC2
  replace H := Option.bind_eq_some_iff.mp H
  obtain ⟨t233, A30, H⟩ := H
  replace H : (if t233 = true then (emendationlaw08_SpaninShort.j0 k a0 (decide ((a0.size : Int) > 300))) else (emendationlaw08_SpaninShort.j0 k a0 true)) = some r := H
  have A3 := Aside0.mk A30
  clear A30
  by_cases c4 : t233 = true
  ·
   subst c4
   have H1 : (emendationlaw08_SpaninShort.j0 k a0 (decide ((a0.size : Int) > 300))) = some r := by rw [if_pos rfl] at H; exact H
   clear H
   have H := H1
   clear H1
   have H' := Aside0.mk H
   clear H
   go_wp2_with (first | (go_at_call 19; (with_reducible refine (emendationlaw08_awake.calls k  true _ ?side1 A3.out).mono ?_); (case side1 => first | exact HT.out | exact Tabs.at HT.out (by repeat (with_reducible first | exact HB.out | apply below_alloc | apply pw_below_drewN | apply below_drew1))); rintro e w5 ⟨rfl, hb⟩; have n0_ := Aside0.mk (below_step (by repeat (with_reducible first | exact HB.out | apply below_alloc | apply pw_below_drewN | apply below_drew1)) hb); clear HB; have HB := n0_; clear n0_; (try clear hb); (try clear hb2); (try clear hk); (try clear hi)))
   repeat (go_quiet (first | (go_at_call 19; (with_reducible refine (emendationlaw08_awake.calls k  true _ ?side1 A3.out).mono ?_); (case side1 => first | exact HT.out | exact Tabs.at HT.out (by repeat (with_reducible first | exact HB.out | apply below_alloc | apply pw_below_drewN | apply below_drew1))); rintro e w5 ⟨rfl, hb⟩; have n0_ := Aside0.mk (below_step (by repeat (with_reducible first | exact HB.out | apply below_alloc | apply pw_below_drewN | apply below_drew1)) hb); clear HB; have HB := n0_; clear n0_; (try clear hb); (try clear hb2); (try clear hk); (try clear hi))); try go_wp2_with (first | (go_at_call 19; (with_reducible refine (emendationlaw08_awake.calls k  true _ ?side1 A3.out).mono ?_); (case side1 => first | exact HT.out | exact Tabs.at HT.out (by repeat (with_reducible first | exact HB.out | apply below_alloc | apply pw_below_drewN | apply below_drew1))); rintro e w5 ⟨rfl, hb⟩; have n0_ := Aside0.mk (below_step (by repeat (with_reducible first | exact HB.out | apply below_alloc | apply pw_below_drewN | apply below_drew1)) hb); clear HB; have HB := n0_; clear n0_; (try clear hb); (try clear hb2); (try clear hk); (try clear hi))))
   go_meet
   case rel => exact ⟨_, (decide ((a0.size : Int) > 300)), (by first | rfl | (simp; done) | (simp [*]; done) | (simp [bne, beq_nil_E]; done)), H', ⟨by first | omega | exact Nat.le_refl _⟩, ⟨by repeat (with_reducible first | exact HB.out | apply below_alloc | apply pw_below_drewN | apply below_drew1)⟩⟩
  ·
   replace c4 := Bool.eq_false_iff.mpr c4
   subst c4
   have H1 : (emendationlaw08_SpaninShort.j0 k a0 true) = some r := by rw [if_neg (show ¬ (false = true) by decide)] at H; exact H
   clear H
   have H := H1
   clear H1
   have H' := Aside0.mk H
   clear H
   go_wp2_with (first | (go_at_call 19; (with_reducible refine (emendationlaw08_awake.calls k  false _ ?side1 A3.out).mono ?_); (case side1 => first | exact HT.out | exact Tabs.at HT.out (by repeat (with_reducible first | exact HB.out | apply below_alloc | apply pw_below_drewN | apply below_drew1))); rintro e w6 ⟨rfl, hb⟩; have n0_ := Aside0.mk (below_step (by repeat (with_reducible first | exact HB.out | apply below_alloc | apply pw_below_drewN | apply below_drew1)) hb); clear HB; have HB := n0_; clear n0_; (try clear hb); (try clear hb2); (try clear hk); (try clear hi)))
   repeat (go_quiet (first | (go_at_call 19; (with_reducible refine (emendationlaw08_awake.calls k  false _ ?side1 A3.out).mono ?_); (case side1 => first | exact HT.out | exact Tabs.at HT.out (by repeat (with_reducible first | exact HB.out | apply below_alloc | apply pw_below_drewN | apply below_drew1))); rintro e w6 ⟨rfl, hb⟩; have n0_ := Aside0.mk (below_step (by repeat (with_reducible first | exact HB.out | apply below_alloc | apply pw_below_drewN | apply below_drew1)) hb); clear HB; have HB := n0_; clear n0_; (try clear hb); (try clear hb2); (try clear hk); (try clear hi))); try go_wp2_with (first | (go_at_call 19; (with_reducible refine (emendationlaw08_awake.calls k  false _ ?side1 A3.out).mono ?_); (case side1 => first | exact HT.out | exact Tabs.at HT.out (by repeat (with_reducible first | exact HB.out | apply below_alloc | apply pw_below_drewN | apply below_drew1))); rintro e w6 ⟨rfl, hb⟩; have n0_ := Aside0.mk (below_step (by repeat (with_reducible first | exact HB.out | apply below_alloc | apply pw_below_drewN | apply below_drew1)) hb); clear HB; have HB := n0_; clear n0_; (try clear hb); (try clear hb2); (try clear hk); (try clear hi))))
   go_meet
   case rel => exact ⟨_, (true), (by first | rfl | (simp; done) | (simp [*]; done) | (simp [bne, beq_nil_E]; done)), H', ⟨by first | omega | exact Nat.le_refl _⟩, ⟨by repeat (with_reducible first | exact HB.out | apply below_alloc | apply pw_below_drewN | apply below_drew1)⟩⟩
 case rest =>
  clear HC2
  try clear p2
  try clear c4
  try clear c6
  obtain ⟨kq, x12_1, rfl, HA, HJ1, HB⟩ := hcut
  cases kq with
  | zero => exact absurd HA.out (by simp [emendationlaw08_SpaninShort.j0])
  | succ kj1 =>
   have H := HA.out
   clear HA
   simp only [emendationlaw08_SpaninShort.j0] at H
   by_cases c7 : x12_1 = true
   ·
    subst c7
    have H1 : ((emendationlaw08_awake.f kj1).bind fun t234 => (some t234)) = some r := by rw [if_pos rfl] at H; exact H
    clear H
    have H := H1
    clear H1
    replace H := Option.bind_eq_some_iff.mp H
    obtain ⟨t234, A80, H⟩ := H
    replace H : (some t234) = some r := H
    have A8 := Aside0.mk A80
    clear A80
    obtain rfl := Option.some.inj H
    go_wp2_with (first | (go_at_call 19; (with_reducible refine (emendationlaw08_awake.calls kj1  t234 _ ?side1 A8.out).mono ?_); (case side1 => first | exact HT.out | exact Tabs.at HT.out (by repeat (with_reducible first | exact HB.out | apply below_alloc | apply pw_below_drewN | apply below_drew1))); rintro e w9 ⟨rfl, hb⟩; have n0_ := Aside0.mk (below_step (by repeat (with_reducible first | exact HB.out | apply below_alloc | apply pw_below_drewN | apply below_drew1)) hb); clear HB; have HB := n0_; clear n0_; (try clear hb); (try clear hb2); (try clear hk); (try clear hi)))
    repeat (go_quiet (first | (go_at_call 19; (with_reducible refine (emendationlaw08_awake.calls kj1  t234 _ ?side1 A8.out).mono ?_); (case side1 => first | exact HT.out | exact Tabs.at HT.out (by repeat (with_reducible first | exact HB.out | apply below_alloc | apply pw_below_drewN | apply below_drew1))); rintro e w9 ⟨rfl, hb⟩; have n0_ := Aside0.mk (below_step (by repeat (with_reducible first | exact HB.out | apply below_alloc | apply pw_below_drewN | apply below_drew1)) hb); clear HB; have HB := n0_; clear n0_; (try clear hb); (try clear hb2); (try clear hk); (try clear hi))); try go_wp2_with (first | (go_at_call 19; (with_reducible refine (emendationlaw08_awake.calls kj1  t234 _ ?side1 A8.out).mono ?_); (case side1 => first | exact HT.out | exact Tabs.at HT.out (by repeat (with_reducible first | exact HB.out | apply below_alloc | apply pw_below_drewN | apply below_drew1))); rintro e w9 ⟨rfl, hb⟩; have n0_ := Aside0.mk (below_step (by repeat (with_reducible first | exact HB.out | apply below_alloc | apply pw_below_drewN | apply below_drew1)) hb); clear HB; have HB := n0_; clear n0_; (try clear hb); (try clear hb2); (try clear hk); (try clear hi))))
    go_ret
    exact ⟨by first | rfl | (simp [errW_none, errW_some] <;> rfl) | (simp [*, errW_none, errW_some] <;> rfl), by repeat (with_reducible first | exact HB.out | apply below_alloc | apply pw_below_drewN | apply below_drew1)⟩
   ·
    replace c7 := Bool.eq_false_iff.mpr c7
    subst c7
    have H1 : ((spanin_Parse.f a0).bind fun t235 => ((emendationref07_Plain.f kj1 t235).bind fun t238 => (emendationlaw08_SpaninShort.l0 kj1 a0 t238 0 (t238.size : Int) 0))) = some r := by rw [if_neg (show ¬ (false = true) by decide)] at H; exact H
    clear H
    have H := H1
    clear H1
    replace H := Option.bind_eq_some_iff.mp H
    obtain ⟨t235, A100, H⟩ := H
    replace H : ((emendationref07_Plain.f kj1 t235).bind fun t238 => (emendationlaw08_SpaninShort.l0 kj1 a0 t238 0 (t238.size : Int) 0)) = some r := H
    have A10 := Aside0.mk A100
    clear A100
    replace H := Option.bind_eq_some_iff.mp H
    obtain ⟨t238, A110, H⟩ := H
    replace H : (emendationlaw08_SpaninShort.l0 kj1 a0 t238 0 (t238.size : Int) 0) = some r := H
    have A11 := Aside0.mk A110
    clear A110
    have H' := Aside0.mk H
    clear H
    go_wp2_with (first | (go_at_call 21; (with_reducible refine (spanin_Parse.calls a0 t235 _ ?side1 A10.out).mono ?_); (case side1 => first | exact HT.out | exact Tabs.at HT.out (by repeat (with_reducible first | exact HB.out | apply below_alloc | apply pw_below_drewN | apply below_drew1))); rintro e w12 ⟨v236, rfl, ho0, hb⟩; have n0_ := Aside0.mk (Kd.R_lower ho0 (below_size (by repeat (with_reducible first | exact HB.out | apply below_alloc | apply pw_below_drewN | apply below_drew1)))); have n1_ := Aside0.mk (below_step (by repeat (with_reducible first | exact HB.out | apply below_alloc | apply pw_below_drewN | apply below_drew1)) hb); clear HB; have HO237 := n0_; have HB := n1_; clear n0_ n1_; (try clear hb); (try clear hb2); (try clear hk); (try clear hi); (try clear ho0); obtain ⟨Ao13, co13, eo13⟩ := Kd.R_slice HO237.out; subst eo13) | (go_at_call 27; (with_reducible refine (emendationref07_Plain.calls kj1 _ _ t235 t238 _ ?side1 ?side2 A11.out).mono ?_); (case side1 => repeat (first | exact (Kd.R_reads' HO237.out).2.2 | (with_reducible refine Kd.C_alloc ?_ _) | (with_reducible refine Kd.C_drewN ?_ _) | (with_reducible refine Kd.C_drew ?_))); (case side2 => exact (Kd.R_reads' HO237.out).2.1); rintro e w' ⟨rfl, ⟨nd, rfl⟩⟩; (try first | exact ⟨rfl, _, World.drewN_drewN _ _ _⟩ | exact ⟨rfl, _, Eq.trans (World.drewN_drewN _ _ _) (congrArg (World.drewN _) (Nat.add_assoc _ _ _))⟩)))
    repeat (go_quiet (first | (go_at_call 21; (with_reducible refine (spanin_Parse.calls a0 t235 _ ?side1 A10.out).mono ?_); (case side1 => first | exact HT.out | exact Tabs.at HT.out (by repeat (with_reducible first | exact HB.out | apply below_alloc | apply pw_below_drewN | apply below_drew1))); rintro e w12 ⟨v236, rfl, ho0, hb⟩; have n0_ := Aside0.mk (Kd.R_lower ho0 (below_size (by repeat (with_reducible first | exact HB.out | apply below_alloc | apply pw_below_drewN | apply below_drew1)))); have n1_ := Aside0.mk (below_step (by repeat (with_reducible first | exact HB.out | apply below_alloc | apply pw_below_drewN | apply below_drew1)) hb); clear HB; have HO237 := n0_; have HB := n1_; clear n0_ n1_; (try clear hb); (try clear hb2); (try clear hk); (try clear hi); (try clear ho0); obtain ⟨Ao13, co13, eo13⟩ := Kd.R_slice HO237.out; subst eo13) | (go_at_call 27; (with_reducible refine (emendationref07_Plain.calls kj1 _ _ t235 t238 _ ?side1 ?side2 A11.out).mono ?_); (case side1 => repeat (first | exact (Kd.R_reads' HO237.out).2.2 | (with_reducible refine Kd.C_alloc ?_ _) | (with_reducible refine Kd.C_drewN ?_ _) | (with_reducible refine Kd.C_drew ?_))); (case side2 => exact (Kd.R_reads' HO237.out).2.1); rintro e w' ⟨rfl, ⟨nd, rfl⟩⟩; (try first | exact ⟨rfl, _, World.drewN_drewN _ _ _⟩ | exact ⟨rfl, _, Eq.trans (World.drewN_drewN _ _ _) (congrArg (World.drewN _) (Nat.add_assoc _ _ _))⟩))); try go_wp2_with (first | (go_at_call 21; (with_reducible refine (spanin_Parse.calls a0 t235 _ ?side1 A10.out).mono ?_); (case side1 => first | exact HT.out | exact Tabs.at HT.out (by repeat (with_reducible first | exact HB.out | apply below_alloc | apply pw_below_drewN | apply below_drew1))); rintro e w12 ⟨v236, rfl, ho0, hb⟩; have n0_ := Aside0.mk (Kd.R_lower ho0 (below_size (by repeat (with_reducible first | exact HB.out | apply below_alloc | apply pw_below_drewN | apply below_drew1)))); have n1_ := Aside0.mk (below_step (by repeat (with_reducible first | exact HB.out | apply below_alloc | apply pw_below_drewN | apply below_drew1)) hb); clear HB; have HO237 := n0_; have HB := n1_; clear n0_ n1_; (try clear hb); (try clear hb2); (try clear hk); (try clear hi); (try clear ho0); obtain ⟨Ao13, co13, eo13⟩ := Kd.R_slice HO237.out; subst eo13) | (go_at_call 27; (with_reducible refine (emendationref07_Plain.calls kj1 _ _ t235 t238 _ ?side1 ?side2 A11.out).mono ?_); (case side1 => repeat (first | exact (Kd.R_reads' HO237.out).2.2 | (with_reducible refine Kd.C_alloc ?_ _) | (with_reducible refine Kd.C_drewN ?_ _) | (with_reducible refine Kd.C_drew ?_))); (case side2 => exact (Kd.R_reads' HO237.out).2.1); rintro e w' ⟨rfl, ⟨nd, rfl⟩⟩; (try first | exact ⟨rfl, _, World.drewN_drewN _ _ _⟩ | exact ⟨rfl, _, Eq.trans (World.drewN_drewN _ _ _) (congrArg (World.drewN _) (Nat.add_assoc _ _ _))⟩))))
    go_loopg [4, 19] kj1 (fun kq v4 v19 w' => ∃ (x4_2 : Int) (x19_2 : Int), v4 = .int .i64 x4_2 ∧ v19 = .int .i64 x19_2 ∧ Aside0 (emendationlaw08_SpaninShort.l0 kq a0 t238 x4_2 (t238.size : Int) x19_2 = some r) ∧ Aside0 (kq ≤ kj1) ∧ Aside0 (Below w.heap.size w w'))
    case atStart => exact ⟨(0), (0), (by first | rfl | (simp; done) | (simp [*]; done) | (simp [bne, beq_nil_E]; done)), (by first | rfl | (simp; done) | (simp [*]; done) | (simp [bne, beq_nil_E]; done)), H', ⟨Nat.le_refl _⟩, ⟨by repeat (with_reducible first | exact HB.out | apply below_alloc | apply pw_below_drewN | apply below_drew1)⟩⟩
    case round =>
     clear H'
     try clear p2
     try clear c4
     try clear c6
     try clear c7
     try clear p2
     obtain ⟨x4_2, x19_2, rfl, rfl, HA, HK2, HB⟩ := hrel
     cases gk with
     | zero => exact absurd HA.out (by simp [emendationlaw08_SpaninShort.l0])
     | succ k2 =>
      have H := HA.out
      clear HA
      simp only [emendationlaw08_SpaninShort.l0] at H
      by_cases c14 : x19_2 < (t238.size : Int)
      ·
       rw [if_pos c14] at H
       have c14b0 : decide (x19_2 < (t238.size : Int)) = true := decide_eq_true c14
       clear c14
       have H' := Aside0.mk H
       clear H
       go_wp2
       repeat (go_quiet (fail); try go_wp2)
       go_loopg [4] k2 (fun kq v4 w' => ∃ (x4_3 : Int), v4 = .int .i64 x4_3 ∧ Aside0 (emendationlaw08_SpaninShort.l1 kq a0 t238 x4_3 x19_2 (t238.size : Int) x19_2 = some r) ∧ Aside0 (kq ≤ k2) ∧ Aside0 (Below w.heap.size w w'))
       case atStart => exact ⟨(x4_2), (by first | rfl | (simp; done) | (simp [*]; done) | (simp [bne, beq_nil_E]; done)), H', ⟨Nat.le_refl _⟩, ⟨by repeat (with_reducible first | exact HB.out | apply below_alloc | apply pw_below_drewN | apply below_drew1)⟩⟩
       case round =>
        clear H'
        try clear c1
        try clear p2
        try clear c4
        try clear c6
        try clear c7
        try clear c14
        try clear c14b0
        try clear p2
        obtain ⟨x4_3, rfl, HA, HK3, HB⟩ := hrel
        cases gk with
        | zero => exact absurd HA.out (by simp [emendationlaw08_SpaninShort.l1])
        | succ k3 =>
         have H := HA.out
         clear HA
         simp only [emendationlaw08_SpaninShort.l1] at H
         by_cases c15 : x4_3 < (a0.size : Int)
         ·
          rw [if_pos c15] at H
          have c15b0 : decide (x4_3 < (a0.size : Int)) = true := decide_eq_true c15
          clear c15
          by_cases c16 : 0 ≤ x4_3
          ·
           rw [if_pos c16] at H
           have c16b0 : decide (0 ≤ x4_3) = true := decide_eq_true c16
           clear c16
           by_cases c18 : 0 ≤ x19_2
           ·
            rw [if_pos c18] at H
            have c18b0 : decide (0 ≤ x19_2) = true := decide_eq_true c18
            clear c18
            by_cases c19 : x19_2 < (t238.size : Int)
            ·
             rw [if_pos c19] at H
             have c19b0 : decide (x19_2 < (t238.size : Int)) = true := decide_eq_true c19
             clear c19
             by_cases c21 : (bt a0 x4_3) = (bt t238 x19_2)
             ·
              rw [if_pos c21] at H
              have c21b0 : ((bt a0 x4_3) == (bt t238 x19_2)) = true := beq_iff_eq.mpr c21
              have c21b1 : ((bt a0 x4_3) != (bt t238 x19_2)) = false := bne_eq_false_iff_eq.mpr c21
              clear c21
              by_cases c22 : x4_3 = (a0.size : Int)
              ·
               rw [if_pos c22] at H
               have c22b0 : (x4_3 == (a0.size : Int)) = true := beq_iff_eq.mpr c22
               have c22b1 : (x4_3 != (a0.size : Int)) = false := bne_eq_false_iff_eq.mpr c22
               clear c22
               obtain rfl := Option.some.inj H
               have p17 : 0 ≤ (x4_3 : Int) := of_decide_eq_true (by first | (with_reducible assumption) | assumption)
               have q17 : x4_3 < (a0.size : Int) := of_decide_eq_true (by first | (with_reducible assumption) | assumption)
               have hx17 := bt_at a0 x4_3
               replace p17 := eq_true p17
               replace q17 := eq_true q17
               have p20 : 0 ≤ (x19_2 : Int) := of_decide_eq_true (by first | (with_reducible assumption) | assumption)
               have q20 : x19_2 < (t238.size : Int) := of_decide_eq_true (by first | (with_reducible assumption) | assumption)
               have hx20 := bt_at t238 x19_2
               replace p20 := eq_true p20
               replace q20 := eq_true q20
               go_wp2
               repeat (go_quiet (fail); try go_wp2)
               go_ret
               exact ⟨by first | rfl | (simp [errW_none, errW_some] <;> rfl) | (simp [*, errW_none, errW_some] <;> rfl), by repeat (with_reducible first | exact HB.out | apply below_alloc | apply pw_below_drewN | apply below_drew1)⟩
              ·
               rw [if_neg c22] at H
               have c22b0 : (x4_3 == (a0.size : Int)) = false := beq_eq_false_iff_ne.mpr c22
               have c22b1 : (x4_3 != (a0.size : Int)) = true := bne_iff_ne.mpr c22
               have H' := Aside0.mk H
               clear H
               have p17 : 0 ≤ (x4_3 : Int) := of_decide_eq_true (by first | (with_reducible assumption) | assumption)
               have q17 : x4_3 < (a0.size : Int) := of_decide_eq_true (by first | (with_reducible assumption) | assumption)
               have hx17 := bt_at a0 x4_3
               replace p17 := eq_true p17
               replace q17 := eq_true q17
               have p20 : 0 ≤ (x19_2 : Int) := of_decide_eq_true (by first | (with_reducible assumption) | assumption)
               have q20 : x19_2 < (t238.size : Int) := of_decide_eq_true (by first | (with_reducible assumption) | assumption)
               have hx20 := bt_at t238 x19_2
               replace p20 := eq_true p20
               replace q20 := eq_true q20
               go_wp2
               repeat (go_quiet (fail); try go_wp2)
               go_roundg k3
               case measure => have := HJ1.out; have := HK2.out; have := HK3.out; omega
               case rel => exact ⟨(wrap64 (x4_3 + 1)), (wrap64 (x19_2 + 1)), (by first | rfl | (simp; done) | (simp [*]; done) | (simp [bne, beq_nil_E]; done)), (by first | rfl | (simp; done) | (simp [*]; done) | (simp [bne, beq_nil_E]; done)), H', ⟨by have := HJ1.out; have := HK2.out; have := HK3.out; omega⟩, ⟨by repeat (with_reducible first | exact HB.out | apply below_alloc | apply pw_below_drewN | apply below_drew1)⟩⟩
             ·
              rw [if_neg c21] at H
              have c21b0 : ((bt a0 x4_3) == (bt t238 x19_2)) = false := beq_eq_false_iff_ne.mpr c21
              have c21b1 : ((bt a0 x4_3) != (bt t238 x19_2)) = true := bne_iff_ne.mpr c21
              have H' := Aside0.mk H
              clear H
              have p17 : 0 ≤ (x4_3 : Int) := of_decide_eq_true (by first | (with_reducible assumption) | assumption)
              have q17 : x4_3 < (a0.size : Int) := of_decide_eq_true (by first | (with_reducible assumption) | assumption)
              have hx17 := bt_at a0 x4_3
              replace p17 := eq_true p17
              replace q17 := eq_true q17
              have p20 : 0 ≤ (x19_2 : Int) := of_decide_eq_true (by first | (with_reducible assumption) | assumption)
              have q20 : x19_2 < (t238.size : Int) := of_decide_eq_true (by first | (with_reducible assumption) | assumption)
              have hx20 := bt_at t238 x19_2
              replace p20 := eq_true p20
              replace q20 := eq_true q20
              go_wp2
              repeat (go_quiet (fail); try go_wp2)
              go_roundg k3
              case measure => have := HJ1.out; have := HK2.out; have := HK3.out; omega
              case rel => exact ⟨(wrap64 (x4_3 + 1)), (by first | rfl | (simp; done) | (simp [*]; done) | (simp [bne, beq_nil_E]; done)), H', ⟨by have := HJ1.out; have := HK2.out; have := HK3.out; omega⟩, ⟨by repeat (with_reducible first | exact HB.out | apply below_alloc | apply pw_below_drewN | apply below_drew1)⟩⟩
            ·
             rw [if_neg c19] at H
             exact absurd H (by simp)
           ·
            rw [if_neg c18] at H
            exact absurd H (by simp)
          ·
           rw [if_neg c16] at H
           exact absurd H (by simp)
         ·
          rw [if_neg c15] at H
          have c15b0 : decide (x4_3 < (a0.size : Int)) = false := decide_eq_false c15
          clear c15
          by_cases c23 : x4_3 = (a0.size : Int)
          ·
           rw [if_pos c23] at H
           have c23b0 : (x4_3 == (a0.size : Int)) = true := beq_iff_eq.mpr c23
           have c23b1 : (x4_3 != (a0.size : Int)) = false := bne_eq_false_iff_eq.mpr c23
           clear c23
           obtain rfl := Option.some.inj H
           go_wp2
           repeat (go_quiet (fail); try go_wp2)
           go_ret
           exact ⟨by first | rfl | (simp [errW_none, errW_some] <;> rfl) | (simp [*, errW_none, errW_some] <;> rfl), by repeat (with_reducible first | exact HB.out | apply below_alloc | apply pw_below_drewN | apply below_drew1)⟩
          ·
           rw [if_neg c23] at H
           have c23b0 : (x4_3 == (a0.size : Int)) = false := beq_eq_false_iff_ne.mpr c23
           have c23b1 : (x4_3 != (a0.size : Int)) = true := bne_iff_ne.mpr c23
           have H' := Aside0.mk H
           clear H
           go_wp2
           repeat (go_quiet (fail); try go_wp2)
           go_roundg k3
           case measure => have := HJ1.out; have := HK2.out; have := HK3.out; omega
           case rel => exact ⟨(wrap64 (x4_3 + 1)), (wrap64 (x19_2 + 1)), (by first | rfl | (simp; done) | (simp [*]; done) | (simp [bne, beq_nil_E]; done)), (by first | rfl | (simp; done) | (simp [*]; done) | (simp [bne, beq_nil_E]; done)), H', ⟨by have := HJ1.out; have := HK2.out; have := HK3.out; omega⟩, ⟨by repeat (with_reducible first | exact HB.out | apply below_alloc | apply pw_below_drewN | apply below_drew1)⟩⟩
      ·
       rw [if_neg c14] at H
       have c14b0 : decide (x19_2 < (t238.size : Int)) = false := decide_eq_false c14
       clear c14
       obtain rfl := Option.some.inj H
       go_wp2
       repeat (go_quiet (fail); try go_wp2)
       go_ret
       exact ⟨by first | rfl | (simp [errW_none, errW_some] <;> rfl) | (simp [*, errW_none, errW_some] <;> rfl), by repeat (with_reducible first | exact HB.out | apply below_alloc | apply pw_below_drewN | apply below_drew1)⟩

end Go.Proofs.YtmfffpfenhgjbaaDoor.X
