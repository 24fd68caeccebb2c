-- Written by a program of this session (wip/mkprint.py over the kit's print) out of the translation; Lean checks it.
import Derived.Test.YtedieaofadhhdaaDoorX0
import Derived.Test.YtedieaofadhhdaaDoorX8
import Derived.Test.YtedieaofadhhdaaDoorGivenDest
import Derived.Test.YtedieaofadhhdaaDoorGivenTabs
namespace Go.Proofs.YtedieaofadhhdaaDoor.X
open Go.RowKit Go.Proofs.YtedieaofadhhdaaDoor.G Go.Proofs.YtedieaofadhhdaaDoorW.PrintWords Go.Proofs.YtedieaofadhhdaaDoorW.PrintLast Go.Proofs.YtedieaofadhhdaaDoorW.PrintMore
attribute [local go_sem] max2_int min2_int max_two min_two max_three min_three max_four min_four   -- for this text's walks alone
set_option linter.unusedVariables false
set_option linter.unusedSimpArgs false

/-! ### emendationlaw07_SpanDests: function 6 -/
mutual
def emendationlaw07_SpanDests.j0 : Nat → ByteArray → ByteArray → Bool → Option (Bool)
 | 0, _, _, _ => none
 | k + 1, x0, x1, x17 => if x17 = true then ((emendationlaw07_awake.f k).bind fun t226 => (some t226)) else ((span_Dest.f x0).bind fun t227 => ((span_Dest.f x1).bind fun t228 => (emendationlaw07_SpanDests.l0 k x0 x1 t227 t228 (x0.size : Int) 0)))
def emendationlaw07_SpanDests.l0 : Nat → ByteArray → ByteArray → Bool → Bool → Int → Int → Option (Bool)
 | 0, _, _, _, _, _, _ => none
 | k + 1, x0, x1, x5, x6, x24, x25 => if x25 < x24 then (if x5 = true then (if 0 ≤ x25 then (if x25 < (x0.size : Int) then (if (bt x0 x25) ≤ 32 then (some false) else (if (bt x0 x25) = 40 then (some false) else (if (bt x0 x25) = 41 then (some false) else (if (bt x0 x25) = 91 then (some false) else (if (bt x0 x25) = 93 then (some false) else (if (bt x0 x25) ≥ 127 then (some false) else (emendationlaw07_SpanDests.l0 k x0 x1 x5 x6 x24 (wrap64 (x25 + 1))))))))) else (none)) else (none)) else (emendationlaw07_SpanDests.l0 k x0 x1 x5 x6 x24 (wrap64 (x25 + 1)))) else (if x0.size + x1.size ≤ 9223372036854775807 then ((span_Dest.f (x0 ++ x1)).bind fun t229 => (if x5 = true then (if x6 = true then (some (t229 == ((x0 ++ x1).toList != ([] : List UInt8)))) else (if x1.toList = ([] : List UInt8) then (some (t229 == ((x0 ++ x1).toList != ([] : List UInt8)))) else (some (t229 == false)))) else (if x0.toList = ([] : List UInt8) then (if x6 = true then (some (t229 == ((x0 ++ x1).toList != ([] : List UInt8)))) else (if x1.toList = ([] : List UInt8) then (some (t229 == ((x0 ++ x1).toList != ([] : List UInt8)))) else (some (t229 == false)))) else (some (t229 == false))))) else (none))
end
def emendationlaw07_SpanDests.f (k : Nat) (a0 : ByteArray) (a1 : ByteArray) : Option (Bool) := (emendationlaw07_awake.f k).bind fun t225 => (if t225 = true then (emendationlaw07_SpanDests.j0 k a0 a1 (decide ((wrap64 ((a0.size : Int) + (a1.size : Int))) > 2000))) else (emendationlaw07_SpanDests.j0 k a0 a1 true))
set_option maxHeartbeats 8000000 in
set_option maxRecDepth 100000 in
theorem emendationlaw07_SpanDests.calls (k : Nat) (a0 : ByteArray) (a1 : ByteArray) (r : Bool) (w : World) (hT : Tabs w) (h : emendationlaw07_SpanDests.f k a0 a1 = some r) :
  Calls Tryd.prog 6 #[.string a0, .string a1] w fun e w' => e = .returned (.bool r) ∧ Below w.heap.size w w' := by
 have HT := Aside0.mk hT
 clear hT
 have HB := Aside0.mk (Below.refl w.heap.size w)
 have H : ((emendationlaw07_awake.f k).bind fun t225 => (if t225 = true then (emendationlaw07_SpanDests.j0 k a0 a1 (decide ((wrap64 ((a0.size : Int) + (a1.size : Int))) > 2000))) else (emendationlaw07_SpanDests.j0 k a0 a1 true))) = some r := h
 clear h
 have HC3 := Aside0.mk H
 clear H
 go_enter Tryd.func6, Tryd.ntmps6
 go_upto_region 1 with (fail)
 go_cut [17] (fun v17 wc => ∃ (kq : Nat) (x17_2 : Bool), v17 = .bool x17_2 ∧ Aside0 (emendationlaw07_SpanDests.j0 kq a0 a1 x17_2 = some r) ∧ Aside0 (kq ≤ k) ∧ Aside0 (Below w.heap.size w wc))
 case first =>
  have H := HC3.out
  clear HC3
  replace H := Option.bind_eq_some_iff.mp H
  obtain ⟨t225, A40, H⟩ := H
  replace H : (if t225 = true then (emendationlaw07_SpanDests.j0 k a0 a1 (decide ((wrap64 ((a0.size : Int) + (a1.size : Int))) > 2000))) else (emendationlaw07_SpanDests.j0 k a0 a1 true)) = some r := H
  have A4 := Aside0.mk A40
  clear A40
  by_cases c5 : t225 = true
  ·
   subst c5
   have H1 : (emendationlaw07_SpanDests.j0 k a0 a1 (decide ((wrap64 ((a0.size : Int) + (a1.size : Int))) > 2000))) = some r := by rw [if_pos rfl] at H; exact H
   clear H
   have H := H1
   clear H1
   have H' := Aside0.mk H
   clear H
   go_wp2_with (first | ((with_reducible refine gate_callee (f := 9) rfl ?_); refine goesL_ (some 8) rfl rfl Tryd.func9 (by kernel_rfl) rfl #[] rfl (by (try simp only [List.map_toArray, List.map_cons, List.map_nil]); first | done | rfl | (simp only [List.length_drop, List.length_take]; rfl)) ?_; (with_reducible refine (emendationlaw07_awake.calls k  true _ ?side1 A4.out).mono ?_); (case side1 => first | exact HT.out | exact Tabs.at HT.out (by repeat (first | (with_reducible first | exact HB.out | apply below_alloc | apply pw_below_drewN | apply below_drew1) | exact HB.out))); rintro e w6 ⟨rfl, hb⟩; refine ⟨_, rfl, ?_⟩; have n0_ := Aside0.mk (below_step (by repeat (first | (with_reducible first | exact HB.out | apply below_alloc | apply pw_below_drewN | apply below_drew1) | exact HB.out)) hb); clear HB; have HB := n0_; clear n0_; (try clear hb); (try clear hb2); (try clear hk); (try clear hi)))
   go_meet
   case rel => exact ⟨_, (decide ((wrap64 ((a0.size : Int) + (a1.size : Int))) > 2000)), (by first | rfl | (simp; done) | (simp [*]; done) | (simp [bne, beq_nil_E]; done)), H', ⟨by first | omega | exact Nat.le_refl _⟩, ⟨by repeat (first | (with_reducible first | exact HB.out | apply below_alloc | apply pw_below_drewN | apply below_drew1) | exact HB.out)⟩⟩
  ·
   replace c5 := Bool.eq_false_iff.mpr c5
   subst c5
   have H1 : (emendationlaw07_SpanDests.j0 k a0 a1 true) = some r := by rw [if_neg (show ¬ (false = true) by decide)] at H; exact H
   clear H
   have H := H1
   clear H1
   have H' := Aside0.mk H
   clear H
   go_wp2_with (first | ((with_reducible refine gate_callee (f := 9) rfl ?_); refine goesL_ (some 8) rfl rfl Tryd.func9 (by kernel_rfl) rfl #[] rfl (by (try simp only [List.map_toArray, List.map_cons, List.map_nil]); first | done | rfl | (simp only [List.length_drop, List.length_take]; rfl)) ?_; (with_reducible refine (emendationlaw07_awake.calls k  false _ ?side1 A4.out).mono ?_); (case side1 => first | exact HT.out | exact Tabs.at HT.out (by repeat (first | (with_reducible first | exact HB.out | apply below_alloc | apply pw_below_drewN | apply below_drew1) | exact HB.out))); rintro e w7 ⟨rfl, hb⟩; refine ⟨_, rfl, ?_⟩; have n0_ := Aside0.mk (below_step (by repeat (first | (with_reducible first | exact HB.out | apply below_alloc | apply pw_below_drewN | apply below_drew1) | exact HB.out)) hb); clear HB; have HB := n0_; clear n0_; (try clear hb); (try clear hb2); (try clear hk); (try clear hi)))
   go_meet
   case rel => exact ⟨_, (true), (by first | rfl | (simp; done) | (simp [*]; done) | (simp [bne, beq_nil_E]; done)), H', ⟨by first | omega | exact Nat.le_refl _⟩, ⟨by repeat (first | (with_reducible first | exact HB.out | apply below_alloc | apply pw_below_drewN | apply below_drew1) | exact HB.out)⟩⟩
 case rest =>
  clear HC3
  try clear p2
  try clear c5
  try clear c6
  try clear p6
  obtain ⟨kq, x17_2, rfl, HA, HJ2, HB⟩ := hcut
  cases kq with
  | zero => exact absurd HA.out (by simp [emendationlaw07_SpanDests.j0])
  | succ kj2 =>
   have H := HA.out
   clear HA
   simp only [emendationlaw07_SpanDests.j0] at H
   by_cases c8 : x17_2 = true
   ·
    subst c8
    have H1 : ((emendationlaw07_awake.f kj2).bind fun t226 => (some t226)) = some r := by rw [if_pos rfl] at H; exact H
    clear H
    have H := H1
    clear H1
    replace H := Option.bind_eq_some_iff.mp H
    obtain ⟨t226, A90, H⟩ := H
    replace H : (some t226) = some r := H
    have A9 := Aside0.mk A90
    clear A90
    obtain rfl := Option.some.inj H
    go_wp2_with (first | ((with_reducible refine gate_callee (f := 9) rfl ?_); refine goesL_ (some 18) rfl rfl Tryd.func9 (by kernel_rfl) rfl #[] rfl (by (try simp only [List.map_toArray, List.map_cons, List.map_nil]); first | done | rfl | (simp only [List.length_drop, List.length_take]; rfl)) ?_; (with_reducible refine (emendationlaw07_awake.calls kj2  t226 _ ?side1 A9.out).mono ?_); (case side1 => first | exact HT.out | exact Tabs.at HT.out (by repeat (first | (with_reducible first | exact HB.out | apply below_alloc | apply pw_below_drewN | apply below_drew1) | exact HB.out))); rintro e w10 ⟨rfl, hb⟩; refine ⟨_, rfl, ?_⟩; have n0_ := Aside0.mk (below_step (by repeat (first | (with_reducible first | exact HB.out | apply below_alloc | apply pw_below_drewN | apply below_drew1) | exact HB.out)) hb); clear HB; have HB := n0_; clear n0_; (try clear hb); (try clear hb2); (try clear hk); (try clear hi)))
    go_ret
    exact ⟨by first | rfl | (have e_ : ∀ l_ : List UInt8, (!l_.isEmpty) = (l_ != []) := (fun l_ => by cases l_ <;> rfl); simp only [e_] <;> rfl) | (simp [errW_none, errW_some] <;> rfl) | (simp [*, errW_none, errW_some] <;> rfl), by repeat (first | (with_reducible first | exact HB.out | apply below_alloc | apply pw_below_drewN | apply below_drew1) | exact HB.out)⟩
   ·
    replace c8 := Bool.eq_false_iff.mpr c8
    subst c8
    have H1 : ((span_Dest.f a0).bind fun t227 => ((span_Dest.f a1).bind fun t228 => (emendationlaw07_SpanDests.l0 kj2 a0 a1 t227 t228 (a0.size : Int) 0))) = some r := by rw [if_neg (show ¬ (false = true) by decide)] at H; exact H
    clear H
    have H := H1
    clear H1
    replace H := Option.bind_eq_some_iff.mp H
    obtain ⟨t227, A110, H⟩ := H
    replace H : ((span_Dest.f a1).bind fun t228 => (emendationlaw07_SpanDests.l0 kj2 a0 a1 t227 t228 (a0.size : Int) 0)) = some r := H
    have A11 := Aside0.mk A110
    clear A110
    replace H := Option.bind_eq_some_iff.mp H
    obtain ⟨t228, A120, H⟩ := H
    replace H : (emendationlaw07_SpanDests.l0 kj2 a0 a1 t227 t228 (a0.size : Int) 0) = some r := H
    have A12 := Aside0.mk A120
    clear A120
    have H' := Aside0.mk H
    clear H
    go_wp2_with (first | ((with_reducible refine gate_callee (f := 16) rfl ?_); refine goesL_ (some 20) rfl rfl Tryd.func16 (by kernel_rfl) rfl #[.string a0] rfl (by (try simp only [List.map_toArray, List.map_cons, List.map_nil]); first | done | rfl | (simp only [List.length_drop, List.length_take]; rfl)) ?_; (with_reducible refine (span_Dest.calls a0 t227 _ A11.out).mono ?_); rintro e w13 ⟨rfl, hb⟩; refine ⟨_, rfl, ?_⟩; have n0_ := Aside0.mk (below_step (by repeat (first | (with_reducible first | exact HB.out | apply below_alloc | apply pw_below_drewN | apply below_drew1) | exact HB.out)) hb); clear HB; have HB := n0_; clear n0_; (try clear hb); (try clear hb2); (try clear hk); (try clear hi)) | ((with_reducible refine gate_callee (f := 16) rfl ?_); refine goesL_ (some 22) rfl rfl Tryd.func16 (by kernel_rfl) rfl #[.string a1] rfl (by (try simp only [List.map_toArray, List.map_cons, List.map_nil]); first | done | rfl | (simp only [List.length_drop, List.length_take]; rfl)) ?_; (with_reducible refine (span_Dest.calls a1 t228 _ A12.out).mono ?_); rintro e w14 ⟨rfl, hb⟩; refine ⟨_, rfl, ?_⟩; have n0_ := Aside0.mk (below_step (by repeat (first | (with_reducible first | exact HB.out | apply below_alloc | apply pw_below_drewN | apply below_drew1) | exact HB.out)) hb); clear HB; have HB := n0_; clear n0_; (try clear hb); (try clear hb2); (try clear hk); (try clear hi)))
    go_loopg [25] kj2 (fun kq v25 w' => ∃ (x25_2 : Int), v25 = .int .i64 x25_2 ∧ Aside0 (emendationlaw07_SpanDests.l0 kq a0 a1 t227 t228 (a0.size : Int) x25_2 = some r) ∧ Aside0 (kq ≤ kj2) ∧ Aside0 (Below w.heap.size w w'))
    case atStart => exact ⟨(0), (by first | rfl | (simp; done) | (simp [*]; done) | (simp [bne, beq_nil_E]; done)), H', ⟨Nat.le_refl _⟩, ⟨by repeat (first | (with_reducible first | exact HB.out | apply below_alloc | apply pw_below_drewN | apply below_drew1) | exact HB.out)⟩⟩
    case round =>
     clear H'
     try clear c1
     try clear p2
     try clear c5
     try clear c6
     try clear p6
     try clear c8
     try clear c9
     try clear p2
     try clear p6
     obtain ⟨x25_2, rfl, HA, HK2, HB⟩ := hrel
     cases gk with
     | zero => exact absurd HA.out (by simp [emendationlaw07_SpanDests.l0])
     | succ k2 =>
      have H := HA.out
      clear HA
      simp only [emendationlaw07_SpanDests.l0] at H
      by_cases c15 : x25_2 < (a0.size : Int)
      ·
       rw [if_pos c15] at H
       have c15b0 : decide (x25_2 < (a0.size : Int)) = true := decide_eq_true c15
       clear c15
       by_cases c16 : t227 = true
       ·
        subst c16
        have H1 : (if 0 ≤ x25_2 then (if x25_2 < (a0.size : Int) then (if (bt a0 x25_2) ≤ 32 then (some false) else (if (bt a0 x25_2) = 40 then (some false) else (if (bt a0 x25_2) = 41 then (some false) else (if (bt a0 x25_2) = 91 then (some false) else (if (bt a0 x25_2) = 93 then (some false) else (if (bt a0 x25_2) ≥ 127 then (some false) else (emendationlaw07_SpanDests.l0 k2 a0 a1 true t228 (a0.size : Int) (wrap64 (x25_2 + 1))))))))) else (none)) else (none)) = some r := by rw [if_pos rfl] at H; exact H
        clear H
        have H := H1
        clear H1
        by_cases c17 : 0 ≤ x25_2
        ·
         rw [if_pos c17] at H
         have c17b0 : decide (0 ≤ x25_2) = true := decide_eq_true c17
         clear c17
         by_cases c18 : x25_2 < (a0.size : Int)
         ·
          rw [if_pos c18] at H
          have c18b0 : decide (x25_2 < (a0.size : Int)) = true := decide_eq_true c18
          clear c18
          by_cases c20 : (bt a0 x25_2) ≤ 32
          ·
           rw [if_pos c20] at H
           have c20b0 : decide ((bt a0 x25_2) ≤ 32) = true := decide_eq_true c20
           clear c20
           obtain rfl := Option.some.inj H
           have p19 : 0 ≤ (x25_2 : Int) := of_decide_eq_true (by first | (with_reducible assumption) | assumption)
           have q19 : x25_2 < (a0.size : Int) := of_decide_eq_true (by first | (with_reducible assumption) | assumption)
           have hx19 := bt_at a0 x25_2
           replace p19 := eq_true p19
           replace q19 := eq_true q19
           go_wp2
           go_ret
           exact ⟨by first | rfl | (have e_ : ∀ l_ : List UInt8, (!l_.isEmpty) = (l_ != []) := (fun l_ => by cases l_ <;> rfl); simp only [e_] <;> rfl) | (simp [errW_none, errW_some] <;> rfl) | (simp [*, errW_none, errW_some] <;> rfl), by repeat (first | (with_reducible first | exact HB.out | apply below_alloc | apply pw_below_drewN | apply below_drew1) | exact HB.out)⟩
          ·
           rw [if_neg c20] at H
           have c20b0 : decide ((bt a0 x25_2) ≤ 32) = false := decide_eq_false c20
           clear c20
           by_cases c22 : (bt a0 x25_2) = 40
           ·
            rw [if_pos c22] at H
            have c22b0 : ((bt a0 x25_2) == 40) = true := beq_iff_eq.mpr c22
            have c22b1 : ((bt a0 x25_2) != 40) = false := bne_eq_false_iff_eq.mpr c22
            clear c22
            obtain rfl := Option.some.inj H
            have p19 : 0 ≤ (x25_2 : Int) := of_decide_eq_true (by first | (with_reducible assumption) | assumption)
            have q19 : x25_2 < (a0.size : Int) := of_decide_eq_true (by first | (with_reducible assumption) | assumption)
            have hx19 := bt_at a0 x25_2
            replace p19 := eq_true p19
            replace q19 := eq_true q19
            have p21 : 0 ≤ (x25_2 : Int) := of_decide_eq_true (by first | (with_reducible assumption) | assumption)
            have q21 : x25_2 < (a0.size : Int) := of_decide_eq_true (by first | (with_reducible assumption) | assumption)
            have hx21 := bt_at a0 x25_2
            replace p21 := eq_true p21
            replace q21 := eq_true q21
            go_wp2
            go_ret
            exact ⟨by first | rfl | (have e_ : ∀ l_ : List UInt8, (!l_.isEmpty) = (l_ != []) := (fun l_ => by cases l_ <;> rfl); simp only [e_] <;> rfl) | (simp [errW_none, errW_some] <;> rfl) | (simp [*, errW_none, errW_some] <;> rfl), by repeat (first | (with_reducible first | exact HB.out | apply below_alloc | apply pw_below_drewN | apply below_drew1) | exact HB.out)⟩
           ·
            rw [if_neg c22] at H
            have c22b0 : ((bt a0 x25_2) == 40) = false := beq_eq_false_iff_ne.mpr c22
            have c22b1 : ((bt a0 x25_2) != 40) = true := bne_iff_ne.mpr c22
            by_cases c24 : (bt a0 x25_2) = 41
            ·
             rw [if_pos c24] at H
             have c24b0 : ((bt a0 x25_2) == 41) = true := beq_iff_eq.mpr c24
             have c24b1 : ((bt a0 x25_2) != 41) = false := bne_eq_false_iff_eq.mpr c24
             clear c24
             obtain rfl := Option.some.inj H
             have p19 : 0 ≤ (x25_2 : Int) := of_decide_eq_true (by first | (with_reducible assumption) | assumption)
             have q19 : x25_2 < (a0.size : Int) := of_decide_eq_true (by first | (with_reducible assumption) | assumption)
             have hx19 := bt_at a0 x25_2
             replace p19 := eq_true p19
             replace q19 := eq_true q19
             have p21 : 0 ≤ (x25_2 : Int) := of_decide_eq_true (by first | (with_reducible assumption) | assumption)
             have q21 : x25_2 < (a0.size : Int) := of_decide_eq_true (by first | (with_reducible assumption) | assumption)
             have hx21 := bt_at a0 x25_2
             replace p21 := eq_true p21
             replace q21 := eq_true q21
             have p23 : 0 ≤ (x25_2 : Int) := of_decide_eq_true (by first | (with_reducible assumption) | assumption)
             have q23 : x25_2 < (a0.size : Int) := of_decide_eq_true (by first | (with_reducible assumption) | assumption)
             have hx23 := bt_at a0 x25_2
             replace p23 := eq_true p23
             replace q23 := eq_true q23
             go_wp2
             go_ret
             exact ⟨by first | rfl | (have e_ : ∀ l_ : List UInt8, (!l_.isEmpty) = (l_ != []) := (fun l_ => by cases l_ <;> rfl); simp only [e_] <;> rfl) | (simp [errW_none, errW_some] <;> rfl) | (simp [*, errW_none, errW_some] <;> rfl), by repeat (first | (with_reducible first | exact HB.out | apply below_alloc | apply pw_below_drewN | apply below_drew1) | exact HB.out)⟩
            ·
             rw [if_neg c24] at H
             have c24b0 : ((bt a0 x25_2) == 41) = false := beq_eq_false_iff_ne.mpr c24
             have c24b1 : ((bt a0 x25_2) != 41) = true := bne_iff_ne.mpr c24
             by_cases c26 : (bt a0 x25_2) = 91
             ·
              rw [if_pos c26] at H
              have c26b0 : ((bt a0 x25_2) == 91) = true := beq_iff_eq.mpr c26
              have c26b1 : ((bt a0 x25_2) != 91) = false := bne_eq_false_iff_eq.mpr c26
              clear c26
              obtain rfl := Option.some.inj H
              have p19 : 0 ≤ (x25_2 : Int) := of_decide_eq_true (by first | (with_reducible assumption) | assumption)
              have q19 : x25_2 < (a0.size : Int) := of_decide_eq_true (by first | (with_reducible assumption) | assumption)
              have hx19 := bt_at a0 x25_2
              replace p19 := eq_true p19
              replace q19 := eq_true q19
              have p21 : 0 ≤ (x25_2 : Int) := of_decide_eq_true (by first | (with_reducible assumption) | assumption)
              have q21 : x25_2 < (a0.size : Int) := of_decide_eq_true (by first | (with_reducible assumption) | assumption)
              have hx21 := bt_at a0 x25_2
              replace p21 := eq_true p21
              replace q21 := eq_true q21
              have p23 : 0 ≤ (x25_2 : Int) := of_decide_eq_true (by first | (with_reducible assumption) | assumption)
              have q23 : x25_2 < (a0.size : Int) := of_decide_eq_true (by first | (with_reducible assumption) | assumption)
              have hx23 := bt_at a0 x25_2
              replace p23 := eq_true p23
              replace q23 := eq_true q23
              have p25 : 0 ≤ (x25_2 : Int) := of_decide_eq_true (by first | (with_reducible assumption) | assumption)
              have q25 : x25_2 < (a0.size : Int) := of_decide_eq_true (by first | (with_reducible assumption) | assumption)
              have hx25 := bt_at a0 x25_2
              replace p25 := eq_true p25
              replace q25 := eq_true q25
              go_wp2
              go_ret
              exact ⟨by first | rfl | (have e_ : ∀ l_ : List UInt8, (!l_.isEmpty) = (l_ != []) := (fun l_ => by cases l_ <;> rfl); simp only [e_] <;> rfl) | (simp [errW_none, errW_some] <;> rfl) | (simp [*, errW_none, errW_some] <;> rfl), by repeat (first | (with_reducible first | exact HB.out | apply below_alloc | apply pw_below_drewN | apply below_drew1) | exact HB.out)⟩
             ·
              rw [if_neg c26] at H
              have c26b0 : ((bt a0 x25_2) == 91) = false := beq_eq_false_iff_ne.mpr c26
              have c26b1 : ((bt a0 x25_2) != 91) = true := bne_iff_ne.mpr c26
              by_cases c28 : (bt a0 x25_2) = 93
              ·
               rw [if_pos c28] at H
               have c28b0 : ((bt a0 x25_2) == 93) = true := beq_iff_eq.mpr c28
               have c28b1 : ((bt a0 x25_2) != 93) = false := bne_eq_false_iff_eq.mpr c28
               clear c28
               obtain rfl := Option.some.inj H
               have p19 : 0 ≤ (x25_2 : Int) := of_decide_eq_true (by first | (with_reducible assumption) | assumption)
               have q19 : x25_2 < (a0.size : Int) := of_decide_eq_true (by first | (with_reducible assumption) | assumption)
               have hx19 := bt_at a0 x25_2
               replace p19 := eq_true p19
               replace q19 := eq_true q19
               have p21 : 0 ≤ (x25_2 : Int) := of_decide_eq_true (by first | (with_reducible assumption) | assumption)
               have q21 : x25_2 < (a0.size : Int) := of_decide_eq_true (by first | (with_reducible assumption) | assumption)
               have hx21 := bt_at a0 x25_2
               replace p21 := eq_true p21
               replace q21 := eq_true q21
               have p23 : 0 ≤ (x25_2 : Int) := of_decide_eq_true (by first | (with_reducible assumption) | assumption)
               have q23 : x25_2 < (a0.size : Int) := of_decide_eq_true (by first | (with_reducible assumption) | assumption)
               have hx23 := bt_at a0 x25_2
               replace p23 := eq_true p23
               replace q23 := eq_true q23
               have p25 : 0 ≤ (x25_2 : Int) := of_decide_eq_true (by first | (with_reducible assumption) | assumption)
               have q25 : x25_2 < (a0.size : Int) := of_decide_eq_true (by first | (with_reducible assumption) | assumption)
               have hx25 := bt_at a0 x25_2
               replace p25 := eq_true p25
               replace q25 := eq_true q25
               have p27 : 0 ≤ (x25_2 : Int) := of_decide_eq_true (by first | (with_reducible assumption) | assumption)
               have q27 : x25_2 < (a0.size : Int) := of_decide_eq_true (by first | (with_reducible assumption) | assumption)
               have hx27 := bt_at a0 x25_2
               replace p27 := eq_true p27
               replace q27 := eq_true q27
               go_wp2
               go_ret
               exact ⟨by first | rfl | (have e_ : ∀ l_ : List UInt8, (!l_.isEmpty) = (l_ != []) := (fun l_ => by cases l_ <;> rfl); simp only [e_] <;> rfl) | (simp [errW_none, errW_some] <;> rfl) | (simp [*, errW_none, errW_some] <;> rfl), by repeat (first | (with_reducible first | exact HB.out | apply below_alloc | apply pw_below_drewN | apply below_drew1) | exact HB.out)⟩
              ·
               rw [if_neg c28] at H
               have c28b0 : ((bt a0 x25_2) == 93) = false := beq_eq_false_iff_ne.mpr c28
               have c28b1 : ((bt a0 x25_2) != 93) = true := bne_iff_ne.mpr c28
               by_cases c30 : (bt a0 x25_2) ≥ 127
               ·
                rw [if_pos c30] at H
                have c30b0 : decide (127 ≤ (bt a0 x25_2)) = true := decide_eq_true c30
                clear c30
                obtain rfl := Option.some.inj H
                have p19 : 0 ≤ (x25_2 : Int) := of_decide_eq_true (by first | (with_reducible assumption) | assumption)
                have q19 : x25_2 < (a0.size : Int) := of_decide_eq_true (by first | (with_reducible assumption) | assumption)
                have hx19 := bt_at a0 x25_2
                replace p19 := eq_true p19
                replace q19 := eq_true q19
                have p21 : 0 ≤ (x25_2 : Int) := of_decide_eq_true (by first | (with_reducible assumption) | assumption)
                have q21 : x25_2 < (a0.size : Int) := of_decide_eq_true (by first | (with_reducible assumption) | assumption)
                have hx21 := bt_at a0 x25_2
                replace p21 := eq_true p21
                replace q21 := eq_true q21
                have p23 : 0 ≤ (x25_2 : Int) := of_decide_eq_true (by first | (with_reducible assumption) | assumption)
                have q23 : x25_2 < (a0.size : Int) := of_decide_eq_true (by first | (with_reducible assumption) | assumption)
                have hx23 := bt_at a0 x25_2
                replace p23 := eq_true p23
                replace q23 := eq_true q23
                have p25 : 0 ≤ (x25_2 : Int) := of_decide_eq_true (by first | (with_reducible assumption) | assumption)
                have q25 : x25_2 < (a0.size : Int) := of_decide_eq_true (by first | (with_reducible assumption) | assumption)
                have hx25 := bt_at a0 x25_2
                replace p25 := eq_true p25
                replace q25 := eq_true q25
                have p27 : 0 ≤ (x25_2 : Int) := of_decide_eq_true (by first | (with_reducible assumption) | assumption)
                have q27 : x25_2 < (a0.size : Int) := of_decide_eq_true (by first | (with_reducible assumption) | assumption)
                have hx27 := bt_at a0 x25_2
                replace p27 := eq_true p27
                replace q27 := eq_true q27
                have p29 : 0 ≤ (x25_2 : Int) := of_decide_eq_true (by first | (with_reducible assumption) | assumption)
                have q29 : x25_2 < (a0.size : Int) := of_decide_eq_true (by first | (with_reducible assumption) | assumption)
                have hx29 := bt_at a0 x25_2
                replace p29 := eq_true p29
                replace q29 := eq_true q29
                go_wp2
                go_ret
                exact ⟨by first | rfl | (have e_ : ∀ l_ : List UInt8, (!l_.isEmpty) = (l_ != []) := (fun l_ => by cases l_ <;> rfl); simp only [e_] <;> rfl) | (simp [errW_none, errW_some] <;> rfl) | (simp [*, errW_none, errW_some] <;> rfl), by repeat (first | (with_reducible first | exact HB.out | apply below_alloc | apply pw_below_drewN | apply below_drew1) | exact HB.out)⟩
               ·
                rw [if_neg c30] at H
                have c30b0 : decide (127 ≤ (bt a0 x25_2)) = false := decide_eq_false c30
                clear c30
                have H' := Aside0.mk H
                clear H
                have p19 : 0 ≤ (x25_2 : Int) := of_decide_eq_true (by first | (with_reducible assumption) | assumption)
                have q19 : x25_2 < (a0.size : Int) := of_decide_eq_true (by first | (with_reducible assumption) | assumption)
                have hx19 := bt_at a0 x25_2
                replace p19 := eq_true p19
                replace q19 := eq_true q19
                have p21 : 0 ≤ (x25_2 : Int) := of_decide_eq_true (by first | (with_reducible assumption) | assumption)
                have q21 : x25_2 < (a0.size : Int) := of_decide_eq_true (by first | (with_reducible assumption) | assumption)
                have hx21 := bt_at a0 x25_2
                replace p21 := eq_true p21
                replace q21 := eq_true q21
                have p23 : 0 ≤ (x25_2 : Int) := of_decide_eq_true (by first | (with_reducible assumption) | assumption)
                have q23 : x25_2 < (a0.size : Int) := of_decide_eq_true (by first | (with_reducible assumption) | assumption)
                have hx23 := bt_at a0 x25_2
                replace p23 := eq_true p23
                replace q23 := eq_true q23
                have p25 : 0 ≤ (x25_2 : Int) := of_decide_eq_true (by first | (with_reducible assumption) | assumption)
                have q25 : x25_2 < (a0.size : Int) := of_decide_eq_true (by first | (with_reducible assumption) | assumption)
                have hx25 := bt_at a0 x25_2
                replace p25 := eq_true p25
                replace q25 := eq_true q25
                have p27 : 0 ≤ (x25_2 : Int) := of_decide_eq_true (by first | (with_reducible assumption) | assumption)
                have q27 : x25_2 < (a0.size : Int) := of_decide_eq_true (by first | (with_reducible assumption) | assumption)
                have hx27 := bt_at a0 x25_2
                replace p27 := eq_true p27
                replace q27 := eq_true q27
                have p29 : 0 ≤ (x25_2 : Int) := of_decide_eq_true (by first | (with_reducible assumption) | assumption)
                have q29 : x25_2 < (a0.size : Int) := of_decide_eq_true (by first | (with_reducible assumption) | assumption)
                have hx29 := bt_at a0 x25_2
                replace p29 := eq_true p29
                replace q29 := eq_true q29
                go_wp2
                go_roundg k2
                case measure => have := HJ2.out; have := HK2.out; omega
                case rel => exact ⟨(wrap64 (x25_2 + 1)), (by first | rfl | (simp; done) | (simp [*]; done) | (simp [bne, beq_nil_E]; done)), H', ⟨by have := HJ2.out; have := HK2.out; omega⟩, ⟨by repeat (first | (with_reducible first | exact HB.out | apply below_alloc | apply pw_below_drewN | apply below_drew1) | exact HB.out)⟩⟩
         ·
          rw [if_neg c18] at H
          exact absurd H (by simp)
        ·
         rw [if_neg c17] at H
         exact absurd H (by simp)
       ·
        replace c16 := Bool.eq_false_iff.mpr c16
        subst c16
        have H1 : (emendationlaw07_SpanDests.l0 k2 a0 a1 false t228 (a0.size : Int) (wrap64 (x25_2 + 1))) = some r := by rw [if_neg (show ¬ (false = true) by decide)] at H; exact H
        clear H
        have H := H1
        clear H1
        have H' := Aside0.mk H
        clear H
        go_wp2
        go_roundg k2
        case measure => have := HJ2.out; have := HK2.out; omega
        case rel => exact ⟨(wrap64 (x25_2 + 1)), (by first | rfl | (simp; done) | (simp [*]; done) | (simp [bne, beq_nil_E]; done)), H', ⟨by have := HJ2.out; have := HK2.out; omega⟩, ⟨by repeat (first | (with_reducible first | exact HB.out | apply below_alloc | apply pw_below_drewN | apply below_drew1) | exact HB.out)⟩⟩
      ·
       rw [if_neg c15] at H
       have c15b0 : decide (x25_2 < (a0.size : Int)) = false := decide_eq_false c15
       clear c15
       by_cases c31 : a0.size + a1.size ≤ 9223372036854775807
       ·
        rw [if_pos c31] at H
        have c31b0 := eq_true c31
        have c31b1 : decide (a0.size + a1.size ≤ 9223372036854775807) = true := decide_eq_true c31
        try have c31b2 : (9223372036854775807 < a0.size + a1.size) = False := eq_false (Nat.not_lt.2 c31)
        replace H := Option.bind_eq_some_iff.mp H
        obtain ⟨t229, A320, H⟩ := H
        replace H : (if t227 = true then (if t228 = true then (some (t229 == ((a0 ++ a1).toList != ([] : List UInt8)))) else (if a1.toList = ([] : List UInt8) then (some (t229 == ((a0 ++ a1).toList != ([] : List UInt8)))) else (some (t229 == false)))) else (if a0.toList = ([] : List UInt8) then (if t228 = true then (some (t229 == ((a0 ++ a1).toList != ([] : List UInt8)))) else (if a1.toList = ([] : List UInt8) then (some (t229 == ((a0 ++ a1).toList != ([] : List UInt8)))) else (some (t229 == false)))) else (some (t229 == false)))) = some r := H
        have A32 := Aside0.mk A320
        clear A320
        by_cases c33 : t227 = true
        ·
         subst c33
         have H1 : (if t228 = true then (some (t229 == ((a0 ++ a1).toList != ([] : List UInt8)))) else (if a1.toList = ([] : List UInt8) then (some (t229 == ((a0 ++ a1).toList != ([] : List UInt8)))) else (some (t229 == false)))) = some r := by rw [if_pos rfl] at H; exact H
         clear H
         have H := H1
         clear H1
         by_cases c34 : t228 = true
         ·
          subst c34
          have H1 : (some (t229 == ((a0 ++ a1).toList != ([] : List UInt8)))) = some r := by rw [if_pos rfl] at H; exact H
          clear H
          have H := H1
          clear H1
          obtain rfl := Option.some.inj H
          go_wp2_with (first | ((with_reducible refine gate_callee (f := 16) rfl ?_); refine goesL_ (some 69) rfl rfl Tryd.func16 (by kernel_rfl) rfl #[.string (a0 ++ a1)] rfl (by (try simp only [List.map_toArray, List.map_cons, List.map_nil]); first | done | rfl | (simp only [List.length_drop, List.length_take]; rfl)) ?_; (with_reducible refine (span_Dest.calls (a0 ++ a1) t229 _ A32.out).mono ?_); rintro e w35 ⟨rfl, hb⟩; refine ⟨_, rfl, ?_⟩; have n0_ := Aside0.mk (below_step (by repeat (first | (with_reducible first | exact HB.out | apply below_alloc | apply pw_below_drewN | apply below_drew1) | exact HB.out)) hb); clear HB; have HB := n0_; clear n0_; (try clear hb); (try clear hb2); (try clear hk); (try clear hi)))
          go_ret
          exact ⟨by first | rfl | (have e_ : ∀ l_ : List UInt8, (!l_.isEmpty) = (l_ != []) := (fun l_ => by cases l_ <;> rfl); simp only [e_] <;> rfl) | (simp [errW_none, errW_some] <;> rfl) | (simp [*, errW_none, errW_some] <;> rfl), by repeat (first | (with_reducible first | exact HB.out | apply below_alloc | apply pw_below_drewN | apply below_drew1) | exact HB.out)⟩
         ·
          replace c34 := Bool.eq_false_iff.mpr c34
          subst c34
          have H1 : (if a1.toList = ([] : List UInt8) then (some (t229 == ((a0 ++ a1).toList != ([] : List UInt8)))) else (some (t229 == false))) = some r := by rw [if_neg (show ¬ (false = true) by decide)] at H; exact H
          clear H
          have H := H1
          clear H1
          by_cases c36 : a1.toList = ([] : List UInt8)
          ·
           rw [if_pos c36] at H
           have c36b0 : (a1.toList == ([] : List UInt8)) = true := beq_iff_eq.mpr c36
           have c36b1 : (a1.toList != ([] : List UInt8)) = false := bne_eq_false_iff_eq.mpr c36
           (try (have c36b0e := c36b0; simp only [beq_nil_E] at c36b0e))
           clear c36
           obtain rfl := Option.some.inj H
           go_wp2_with (first | ((with_reducible refine gate_callee (f := 16) rfl ?_); refine goesL_ (some 69) rfl rfl Tryd.func16 (by kernel_rfl) rfl #[.string (a0 ++ a1)] rfl (by (try simp only [List.map_toArray, List.map_cons, List.map_nil]); first | done | rfl | (simp only [List.length_drop, List.length_take]; rfl)) ?_; (with_reducible refine (span_Dest.calls (a0 ++ a1) t229 _ A32.out).mono ?_); rintro e w37 ⟨rfl, hb⟩; refine ⟨_, rfl, ?_⟩; have n0_ := Aside0.mk (below_step (by repeat (first | (with_reducible first | exact HB.out | apply below_alloc | apply pw_below_drewN | apply below_drew1) | exact HB.out)) hb); clear HB; have HB := n0_; clear n0_; (try clear hb); (try clear hb2); (try clear hk); (try clear hi)))
           go_ret
           exact ⟨by first | rfl | (have e_ : ∀ l_ : List UInt8, (!l_.isEmpty) = (l_ != []) := (fun l_ => by cases l_ <;> rfl); simp only [e_] <;> rfl) | (simp [errW_none, errW_some] <;> rfl) | (simp [*, errW_none, errW_some] <;> rfl), by repeat (first | (with_reducible first | exact HB.out | apply below_alloc | apply pw_below_drewN | apply below_drew1) | exact HB.out)⟩
          ·
           rw [if_neg c36] at H
           have c36b0 : (a1.toList == ([] : List UInt8)) = false := beq_eq_false_iff_ne.mpr c36
           have c36b1 : (a1.toList != ([] : List UInt8)) = true := bne_iff_ne.mpr c36
           (try (have c36b0e := c36b0; simp only [beq_nil_E] at c36b0e))
           obtain rfl := Option.some.inj H
           go_wp2_with (first | ((with_reducible refine gate_callee (f := 16) rfl ?_); refine goesL_ (some 69) rfl rfl Tryd.func16 (by kernel_rfl) rfl #[.string (a0 ++ a1)] rfl (by (try simp only [List.map_toArray, List.map_cons, List.map_nil]); first | done | rfl | (simp only [List.length_drop, List.length_take]; rfl)) ?_; (with_reducible refine (span_Dest.calls (a0 ++ a1) t229 _ A32.out).mono ?_); rintro e w38 ⟨rfl, hb⟩; refine ⟨_, rfl, ?_⟩; have n0_ := Aside0.mk (below_step (by repeat (first | (with_reducible first | exact HB.out | apply below_alloc | apply pw_below_drewN | apply below_drew1) | exact HB.out)) hb); clear HB; have HB := n0_; clear n0_; (try clear hb); (try clear hb2); (try clear hk); (try clear hi)))
           go_ret
           exact ⟨by first | rfl | (have e_ : ∀ l_ : List UInt8, (!l_.isEmpty) = (l_ != []) := (fun l_ => by cases l_ <;> rfl); simp only [e_] <;> rfl) | (simp [errW_none, errW_some] <;> rfl) | (simp [*, errW_none, errW_some] <;> rfl), by repeat (first | (with_reducible first | exact HB.out | apply below_alloc | apply pw_below_drewN | apply below_drew1) | exact HB.out)⟩
        ·
         replace c33 := Bool.eq_false_iff.mpr c33
         subst c33
         have H1 : (if a0.toList = ([] : List UInt8) then (if t228 = true then (some (t229 == ((a0 ++ a1).toList != ([] : List UInt8)))) else (if a1.toList = ([] : List UInt8) then (some (t229 == ((a0 ++ a1).toList != ([] : List UInt8)))) else (some (t229 == false)))) else (some (t229 == false))) = some r := by rw [if_neg (show ¬ (false = true) by decide)] at H; exact H
         clear H
         have H := H1
         clear H1
         by_cases c39 : a0.toList = ([] : List UInt8)
         ·
          rw [if_pos c39] at H
          have c39b0 : (a0.toList == ([] : List UInt8)) = true := beq_iff_eq.mpr c39
          have c39b1 : (a0.toList != ([] : List UInt8)) = false := bne_eq_false_iff_eq.mpr c39
          (try (have c39b0e := c39b0; simp only [beq_nil_E] at c39b0e))
          clear c39
          by_cases c40 : t228 = true
          ·
           subst c40
           have H1 : (some (t229 == ((a0 ++ a1).toList != ([] : List UInt8)))) = some r := by rw [if_pos rfl] at H; exact H
           clear H
           have H := H1
           clear H1
           obtain rfl := Option.some.inj H
           go_wp2_with (first | ((with_reducible refine gate_callee (f := 16) rfl ?_); refine goesL_ (some 69) rfl rfl Tryd.func16 (by kernel_rfl) rfl #[.string (a0 ++ a1)] rfl (by (try simp only [List.map_toArray, List.map_cons, List.map_nil]); first | done | rfl | (simp only [List.length_drop, List.length_take]; rfl)) ?_; (with_reducible refine (span_Dest.calls (a0 ++ a1) t229 _ A32.out).mono ?_); rintro e w41 ⟨rfl, hb⟩; refine ⟨_, rfl, ?_⟩; have n0_ := Aside0.mk (below_step (by repeat (first | (with_reducible first | exact HB.out | apply below_alloc | apply pw_below_drewN | apply below_drew1) | exact HB.out)) hb); clear HB; have HB := n0_; clear n0_; (try clear hb); (try clear hb2); (try clear hk); (try clear hi)))
           go_ret
           exact ⟨by first | rfl | (have e_ : ∀ l_ : List UInt8, (!l_.isEmpty) = (l_ != []) := (fun l_ => by cases l_ <;> rfl); simp only [e_] <;> rfl) | (simp [errW_none, errW_some] <;> rfl) | (simp [*, errW_none, errW_some] <;> rfl), by repeat (first | (with_reducible first | exact HB.out | apply below_alloc | apply pw_below_drewN | apply below_drew1) | exact HB.out)⟩
          ·
           replace c40 := Bool.eq_false_iff.mpr c40
           subst c40
           have H1 : (if a1.toList = ([] : List UInt8) then (some (t229 == ((a0 ++ a1).toList != ([] : List UInt8)))) else (some (t229 == false))) = some r := by rw [if_neg (show ¬ (false = true) by decide)] at H; exact H
           clear H
           have H := H1
           clear H1
           by_cases c42 : a1.toList = ([] : List UInt8)
           ·
            rw [if_pos c42] at H
            have c42b0 : (a1.toList == ([] : List UInt8)) = true := beq_iff_eq.mpr c42
            have c42b1 : (a1.toList != ([] : List UInt8)) = false := bne_eq_false_iff_eq.mpr c42
            (try (have c42b0e := c42b0; simp only [beq_nil_E] at c42b0e))
            clear c42
            obtain rfl := Option.some.inj H
            go_wp2_with (first | ((with_reducible refine gate_callee (f := 16) rfl ?_); refine goesL_ (some 69) rfl rfl Tryd.func16 (by kernel_rfl) rfl #[.string (a0 ++ a1)] rfl (by (try simp only [List.map_toArray, List.map_cons, List.map_nil]); first | done | rfl | (simp only [List.length_drop, List.length_take]; rfl)) ?_; (with_reducible refine (span_Dest.calls (a0 ++ a1) t229 _ A32.out).mono ?_); rintro e w43 ⟨rfl, hb⟩; refine ⟨_, rfl, ?_⟩; have n0_ := Aside0.mk (below_step (by repeat (first | (with_reducible first | exact HB.out | apply below_alloc | apply pw_below_drewN | apply below_drew1) | exact HB.out)) hb); clear HB; have HB := n0_; clear n0_; (try clear hb); (try clear hb2); (try clear hk); (try clear hi)))
            go_ret
            exact ⟨by first | rfl | (have e_ : ∀ l_ : List UInt8, (!l_.isEmpty) = (l_ != []) := (fun l_ => by cases l_ <;> rfl); simp only [e_] <;> rfl) | (simp [errW_none, errW_some] <;> rfl) | (simp [*, errW_none, errW_some] <;> rfl), by repeat (first | (with_reducible first | exact HB.out | apply below_alloc | apply pw_below_drewN | apply below_drew1) | exact HB.out)⟩
           ·
            rw [if_neg c42] at H
            have c42b0 : (a1.toList == ([] : List UInt8)) = false := beq_eq_false_iff_ne.mpr c42
            have c42b1 : (a1.toList != ([] : List UInt8)) = true := bne_iff_ne.mpr c42
            (try (have c42b0e := c42b0; simp only [beq_nil_E] at c42b0e))
            obtain rfl := Option.some.inj H
            go_wp2_with (first | ((with_reducible refine gate_callee (f := 16) rfl ?_); refine goesL_ (some 69) rfl rfl Tryd.func16 (by kernel_rfl) rfl #[.string (a0 ++ a1)] rfl (by (try simp only [List.map_toArray, List.map_cons, List.map_nil]); first | done | rfl | (simp only [List.length_drop, List.length_take]; rfl)) ?_; (with_reducible refine (span_Dest.calls (a0 ++ a1) t229 _ A32.out).mono ?_); rintro e w44 ⟨rfl, hb⟩; refine ⟨_, rfl, ?_⟩; have n0_ := Aside0.mk (below_step (by repeat (first | (with_reducible first | exact HB.out | apply below_alloc | apply pw_below_drewN | apply below_drew1) | exact HB.out)) hb); clear HB; have HB := n0_; clear n0_; (try clear hb); (try clear hb2); (try clear hk); (try clear hi)))
            go_ret
            exact ⟨by first | rfl | (have e_ : ∀ l_ : List UInt8, (!l_.isEmpty) = (l_ != []) := (fun l_ => by cases l_ <;> rfl); simp only [e_] <;> rfl) | (simp [errW_none, errW_some] <;> rfl) | (simp [*, errW_none, errW_some] <;> rfl), by repeat (first | (with_reducible first | exact HB.out | apply below_alloc | apply pw_below_drewN | apply below_drew1) | exact HB.out)⟩
         ·
          rw [if_neg c39] at H
          have c39b0 : (a0.toList == ([] : List UInt8)) = false := beq_eq_false_iff_ne.mpr c39
          have c39b1 : (a0.toList != ([] : List UInt8)) = true := bne_iff_ne.mpr c39
          (try (have c39b0e := c39b0; simp only [beq_nil_E] at c39b0e))
          obtain rfl := Option.some.inj H
          go_wp2_with (first | ((with_reducible refine gate_callee (f := 16) rfl ?_); refine goesL_ (some 69) rfl rfl Tryd.func16 (by kernel_rfl) rfl #[.string (a0 ++ a1)] rfl (by (try simp only [List.map_toArray, List.map_cons, List.map_nil]); first | done | rfl | (simp only [List.length_drop, List.length_take]; rfl)) ?_; (with_reducible refine (span_Dest.calls (a0 ++ a1) t229 _ A32.out).mono ?_); rintro e w45 ⟨rfl, hb⟩; refine ⟨_, rfl, ?_⟩; have n0_ := Aside0.mk (below_step (by repeat (first | (with_reducible first | exact HB.out | apply below_alloc | apply pw_below_drewN | apply below_drew1) | exact HB.out)) hb); clear HB; have HB := n0_; clear n0_; (try clear hb); (try clear hb2); (try clear hk); (try clear hi)))
          go_ret
          exact ⟨by first | rfl | (have e_ : ∀ l_ : List UInt8, (!l_.isEmpty) = (l_ != []) := (fun l_ => by cases l_ <;> rfl); simp only [e_] <;> rfl) | (simp [errW_none, errW_some] <;> rfl) | (simp [*, errW_none, errW_some] <;> rfl), by repeat (first | (with_reducible first | exact HB.out | apply below_alloc | apply pw_below_drewN | apply below_drew1) | exact HB.out)⟩
       ·
        rw [if_neg c31] at H
        exact absurd H (by simp)

-- GIVEN: function 19 (span_Same)

-- GIVEN: function 20 (emendationref07_Same)

end Go.Proofs.YtedieaofadhhdaaDoor.X
