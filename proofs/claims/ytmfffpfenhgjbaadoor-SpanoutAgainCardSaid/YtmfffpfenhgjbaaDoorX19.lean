-- Written by a program of this session (wip/mkprint.py over the kit's print) out of the translation; Lean checks it.
import Derived.Test.YtmfffpfenhgjbaaDoorX0
import Derived.Test.YtmfffpfenhgjbaaDoorX8
import Derived.Test.YtmfffpfenhgjbaaDoorX9
import Derived.Test.YtmfffpfenhgjbaaDoorX15
import Derived.Test.YtmfffpfenhgjbaaDoorGivenRefSame
import Derived.Test.YtmfffpfenhgjbaaDoorGivenTabs
import Derived.Test.YtmfffpfenhgjbaaDoorGivenWrite
/- patched -/
namespace Go.Proofs.YtmfffpfenhgjbaaDoor.X
open Go.RowKit Go.Proofs.YtmfffpfenhgjbaaDoor.G Go.Proofs.YtmfffpfenhgjbaaDoorW.PrintWords Go.Proofs.YtmfffpfenhgjbaaDoorW.PrintLast Go.Proofs.YtmfffpfenhgjbaaDoorW.PrintMore
attribute [local go_sem] max2_int min2_int max_two min_two max_three min_three max_four min_four   -- for this text's walks alone
set_option linter.unusedVariables false
set_option linter.unusedSimpArgs false

/-! ### emendationlaw09_SpanoutAgain: function 10 -/
def emendationlaw09_SpanoutAgain.j0 : Nat → ByteArray → Bool → Option (Bool)
 | 0, _, _ => none
 | k + 1, x0, x20 => if x20 = true then ((emendationlaw09_awake.f).bind fun t304 => (some t304)) else ((spanin_Parse.f x0).bind fun t305 => ((spanout_Write.f t305).bind fun bt308 => ((spanin_Parse.f bt308.1).bind fun t310 => ((spanout_Write.f t310).bind fun bt313 => (if bt308.2 = 0 then (if bt313.2 = 0 then (if bt308.1.toList = bt313.1.toList then ((emendationref07_Same.f t310 t305).bind fun t315 => (some t315)) else (some false)) else (some false)) else (some false))))))
def emendationlaw09_SpanoutAgain.f (k : Nat) (a0 : ByteArray) : Option (Bool) := (emendationlaw09_awake.f).bind fun t302 => (if t302 = true then (if (a0.size : Int) > 200 then (emendationlaw09_SpanoutAgain.j0 k a0 true) else ((spanin_Clean.f k a0).bind fun t303 => (emendationlaw09_SpanoutAgain.j0 k a0 (!t303)))) else (emendationlaw09_SpanoutAgain.j0 k a0 true))
set_option maxHeartbeats 8000000 in
set_option maxRecDepth 100000 in
theorem emendationlaw09_SpanoutAgain.calls (k : Nat) (a0 : ByteArray) (r : Bool) (w : World) (hT : Tabs w) (h : emendationlaw09_SpanoutAgain.f k a0 = some r) :
  Calls Tryd.prog 10 #[.string a0] w fun e w' => e = .returned (.bool r) ∧ Below w.heap.size w w' := by
 have HT := Aside0.mk hT
 clear hT
 have HB := Aside0.mk (Below.refl w.heap.size w)
 have H : ((emendationlaw09_awake.f).bind fun t302 => (if t302 = true then (if (a0.size : Int) > 200 then (emendationlaw09_SpanoutAgain.j0 k a0 true) else ((spanin_Clean.f k a0).bind fun t303 => (emendationlaw09_SpanoutAgain.j0 k a0 (!t303)))) else (emendationlaw09_SpanoutAgain.j0 k a0 true))) = some r := h
 clear h
 have HC2 := Aside0.mk H
 clear H
 go_enter Tryd.func10, Tryd.ntmps10
 go_upto_region 1 with (fail)
 go_cut [20] (fun v20 wc => ∃ (kq : Nat) (x20_1 : Bool), v20 = .bool x20_1 ∧ Aside0 (emendationlaw09_SpanoutAgain.j0 kq a0 x20_1 = some r) ∧ Aside0 (kq ≤ k) ∧ Aside0 (Below w.heap.size w wc))
 case first =>
  have H := HC2.out
  clear HC2
  replace H := Option.bind_eq_some_iff.mp H
  obtain ⟨t302, A30, H⟩ := H
  replace H : (if t302 = true then (if (a0.size : Int) > 200 then (emendationlaw09_SpanoutAgain.j0 k a0 true) else ((spanin_Clean.f k a0).bind fun t303 => (emendationlaw09_SpanoutAgain.j0 k a0 (!t303)))) else (emendationlaw09_SpanoutAgain.j0 k a0 true)) = some r := H
  have A3 := Aside0.mk A30
  clear A30
  by_cases c4 : t302 = true
  ·
   subst c4
   have H1 : (if (a0.size : Int) > 200 then (emendationlaw09_SpanoutAgain.j0 k a0 true) else ((spanin_Clean.f k a0).bind fun t303 => (emendationlaw09_SpanoutAgain.j0 k a0 (!t303)))) = some r := by rw [if_pos rfl] at H; exact H
   clear H
   have H := H1
   clear H1
   by_cases c5 : (a0.size : Int) > 200
   ·
    rw [if_pos c5] at H
    have c5b0 : decide (200 < (a0.size : Int)) = true := decide_eq_true c5
    have c5b1 : decide (200 < a0.size) = true := decide_eq_true (by omega)
    clear c5
    (first | rw [c5b0] | (simp only [i64_w, i32_w]; rw [c5b0]) | skip)
    have H' := Aside0.mk H
    clear H
    go_wp2_with (first | ((with_reducible refine gate_callee (f := 30) rfl ?_); refine goesL_ (some 9) rfl rfl Tryd.func30 (by kernel_rfl) rfl #[] rfl (by (try simp only [List.map_toArray, List.map_cons, List.map_nil]); first | done | rfl | (simp only [List.length_drop, List.length_take]; rfl)) ?_; (with_reducible refine (emendationlaw09_awake.calls  true _ ?side1 A3.out).mono ?_); (case side1 => first | exact HT.out | exact Tabs.at HT.out (by repeat (with_reducible first | exact HB.out | apply below_alloc | apply pw_below_drewN | apply below_drew1))); rintro e w6 ⟨rfl, hb⟩; refine ⟨_, rfl, ?_⟩; have n0_ := Aside0.mk (below_step (by repeat (with_reducible first | exact HB.out | apply below_alloc | apply pw_below_drewN | apply below_drew1)) hb); clear HB; have HB := n0_; clear n0_; (try clear hb); (try clear hb2); (try clear hk); (try clear hi)))
    go_meet
    case rel => exact ⟨_, (true), (by first | rfl | (simp; done) | (simp [*]; done) | (simp [bne, beq_nil_E]; done)), H', ⟨by first | omega | exact Nat.le_refl _⟩, ⟨by repeat (with_reducible first | exact HB.out | apply below_alloc | apply pw_below_drewN | apply below_drew1)⟩⟩
   ·
    rw [if_neg c5] at H
    have c5b0 : decide (200 < (a0.size : Int)) = false := decide_eq_false c5
    have c5b1 : decide (200 < a0.size) = false := decide_eq_false (by omega)
    clear c5
    (first | rw [c5b0] | (simp only [i64_w, i32_w]; rw [c5b0]) | skip)
    replace H := Option.bind_eq_some_iff.mp H
    obtain ⟨t303, A70, H⟩ := H
    replace H : (emendationlaw09_SpanoutAgain.j0 k a0 (!t303)) = some r := H
    have A7 := Aside0.mk A70
    clear A70
    have H' := Aside0.mk H
    clear H
    go_wp2_with (first | ((with_reducible refine gate_callee (f := 30) rfl ?_); refine goesL_ (some 9) rfl rfl Tryd.func30 (by kernel_rfl) rfl #[] rfl (by (try simp only [List.map_toArray, List.map_cons, List.map_nil]); first | done | rfl | (simp only [List.length_drop, List.length_take]; rfl)) ?_; (with_reducible refine (emendationlaw09_awake.calls  true _ ?side1 A3.out).mono ?_); (case side1 => first | exact HT.out | exact Tabs.at HT.out (by repeat (with_reducible first | exact HB.out | apply below_alloc | apply pw_below_drewN | apply below_drew1))); rintro e w8 ⟨rfl, hb⟩; refine ⟨_, rfl, ?_⟩; have n0_ := Aside0.mk (below_step (by repeat (with_reducible first | exact HB.out | apply below_alloc | apply pw_below_drewN | apply below_drew1)) hb); clear HB; have HB := n0_; clear n0_; (try clear hb); (try clear hb2); (try clear hk); (try clear hi); have tkA7 : True := trivial) | (go_at_call 23; clear tkA7; (with_reducible refine (spanin_Clean.calls k a0 t303 _ ?side1 A7.out).mono ?_); (case side1 => first | exact HT.out | exact Tabs.at HT.out (by repeat (with_reducible first | exact HB.out | apply below_alloc | apply pw_below_drewN | apply below_drew1))); rintro e w9 ⟨rfl, hb⟩; have n0_ := Aside0.mk (below_step (by repeat (with_reducible first | exact HB.out | apply below_alloc | apply pw_below_drewN | apply below_drew1)) hb); clear HB; have HB := n0_; clear n0_; (try clear hb); (try clear hb2); (try clear hk); (try clear hi)))
    go_meet
    case rel => exact ⟨_, (!t303), (by first | rfl | (simp; done) | (simp [*]; done) | (simp [bne, beq_nil_E]; done)), H', ⟨by first | omega | exact Nat.le_refl _⟩, ⟨by repeat (with_reducible first | exact HB.out | apply below_alloc | apply pw_below_drewN | apply below_drew1)⟩⟩
  ·
   replace c4 := Bool.eq_false_iff.mpr c4
   subst c4
   have H1 : (emendationlaw09_SpanoutAgain.j0 k a0 true) = some r := by rw [if_neg (show ¬ (false = true) by decide)] at H; exact H
   clear H
   have H := H1
   clear H1
   have H' := Aside0.mk H
   clear H
   go_wp2_with (first | ((with_reducible refine gate_callee (f := 30) rfl ?_); refine goesL_ (some 9) rfl rfl Tryd.func30 (by kernel_rfl) rfl #[] rfl (by (try simp only [List.map_toArray, List.map_cons, List.map_nil]); first | done | rfl | (simp only [List.length_drop, List.length_take]; rfl)) ?_; (with_reducible refine (emendationlaw09_awake.calls  false _ ?side1 A3.out).mono ?_); (case side1 => first | exact HT.out | exact Tabs.at HT.out (by repeat (with_reducible first | exact HB.out | apply below_alloc | apply pw_below_drewN | apply below_drew1))); rintro e w10 ⟨rfl, hb⟩; refine ⟨_, rfl, ?_⟩; have n0_ := Aside0.mk (below_step (by repeat (with_reducible first | exact HB.out | apply below_alloc | apply pw_below_drewN | apply below_drew1)) hb); clear HB; have HB := n0_; clear n0_; (try clear hb); (try clear hb2); (try clear hk); (try clear hi)))
   go_meet
   case rel => exact ⟨_, (true), (by first | rfl | (simp; done) | (simp [*]; done) | (simp [bne, beq_nil_E]; done)), H', ⟨by first | omega | exact Nat.le_refl _⟩, ⟨by repeat (with_reducible first | exact HB.out | apply below_alloc | apply pw_below_drewN | apply below_drew1)⟩⟩
 case rest =>
  clear HC2
  try clear c1
  try clear p2
  try clear c3
  try clear c4
  try clear c5
  try clear c5b0
  try clear c5b1
  try clear c10
  obtain ⟨kq, x20_1, rfl, HA, HJ1, HB⟩ := hcut
  cases kq with
  | zero => exact absurd HA.out (by simp [emendationlaw09_SpanoutAgain.j0])
  | succ kj1 =>
   have H := HA.out
   clear HA
   simp only [emendationlaw09_SpanoutAgain.j0] at H
   by_cases c11 : x20_1 = true
   ·
    subst c11
    have H1 : ((emendationlaw09_awake.f).bind fun t304 => (some t304)) = some r := by rw [if_pos rfl] at H; exact H
    clear H
    have H := H1
    clear H1
    replace H := Option.bind_eq_some_iff.mp H
    obtain ⟨t304, A120, H⟩ := H
    replace H : (some t304) = some r := H
    have A12 := Aside0.mk A120
    clear A120
    obtain rfl := Option.some.inj H
    go_wp2_with (first | ((with_reducible refine gate_callee (f := 30) rfl ?_); refine goesL_ (some 21) rfl rfl Tryd.func30 (by kernel_rfl) rfl #[] rfl (by (try simp only [List.map_toArray, List.map_cons, List.map_nil]); first | done | rfl | (simp only [List.length_drop, List.length_take]; rfl)) ?_; (with_reducible refine (emendationlaw09_awake.calls  t304 _ ?side1 A12.out).mono ?_); (case side1 => first | exact HT.out | exact Tabs.at HT.out (by repeat (with_reducible first | exact HB.out | apply below_alloc | apply pw_below_drewN | apply below_drew1))); rintro e w13 ⟨rfl, hb⟩; refine ⟨_, rfl, ?_⟩; have n0_ := Aside0.mk (below_step (by repeat (with_reducible first | exact HB.out | apply below_alloc | apply pw_below_drewN | apply below_drew1)) hb); clear HB; have HB := n0_; clear n0_; (try clear hb); (try clear hb2); (try clear hk); (try clear hi)))
    go_ret
    exact ⟨by first | rfl | (simp [errW_none, errW_some] <;> rfl) | (simp [*, errW_none, errW_some] <;> rfl), by repeat (with_reducible first | exact HB.out | apply below_alloc | apply pw_below_drewN | apply below_drew1)⟩
   ·
    replace c11 := Bool.eq_false_iff.mpr c11
    subst c11
    have H1 : ((spanin_Parse.f a0).bind fun t305 => ((spanout_Write.f t305).bind fun bt308 => ((spanin_Parse.f bt308.1).bind fun t310 => ((spanout_Write.f t310).bind fun bt313 => (if bt308.2 = 0 then (if bt313.2 = 0 then (if bt308.1.toList = bt313.1.toList then ((emendationref07_Same.f t310 t305).bind fun t315 => (some t315)) else (some false)) else (some false)) else (some false)))))) = some r := by rw [if_neg (show ¬ (false = true) by decide)] at H; exact H
    clear H
    have H := H1
    clear H1
    replace H := Option.bind_eq_some_iff.mp H
    obtain ⟨t305, A140, H⟩ := H
    replace H : ((spanout_Write.f t305).bind fun bt308 => ((spanin_Parse.f bt308.1).bind fun t310 => ((spanout_Write.f t310).bind fun bt313 => (if bt308.2 = 0 then (if bt313.2 = 0 then (if bt308.1.toList = bt313.1.toList then ((emendationref07_Same.f t310 t305).bind fun t315 => (some t315)) else (some false)) else (some false)) else (some false))))) = some r := H
    have A14 := Aside0.mk A140
    clear A140
    replace H := Option.bind_eq_some_iff.mp H
    obtain ⟨⟨t308, t309⟩, A150, H⟩ := H
    replace H : ((spanin_Parse.f t308).bind fun t310 => ((spanout_Write.f t310).bind fun bt313 => (if t309 = 0 then (if bt313.2 = 0 then (if t308.toList = bt313.1.toList then ((emendationref07_Same.f t310 t305).bind fun t315 => (some t315)) else (some false)) else (some false)) else (some false)))) = some r := H
    have A15 := Aside0.mk A150
    clear A150
    replace H := Option.bind_eq_some_iff.mp H
    obtain ⟨t310, A160, H⟩ := H
    replace H : ((spanout_Write.f t310).bind fun bt313 => (if t309 = 0 then (if bt313.2 = 0 then (if t308.toList = bt313.1.toList then ((emendationref07_Same.f t310 t305).bind fun t315 => (some t315)) else (some false)) else (some false)) else (some false))) = some r := H
    have A16 := Aside0.mk A160
    clear A160
    replace H := Option.bind_eq_some_iff.mp H
    obtain ⟨⟨t313, t314⟩, A170, H⟩ := H
    replace H : (if t309 = 0 then (if t314 = 0 then (if t308.toList = t313.toList then ((emendationref07_Same.f t310 t305).bind fun t315 => (some t315)) else (some false)) else (some false)) else (some false)) = some r := H
    have A17 := Aside0.mk A170
    clear A170
    by_cases c18 : t309 = 0
    ·
     rw [if_pos c18] at H
     have c18b0 : (t309 == 0) = true := beq_iff_eq.mpr c18
     have c18b1 : (t309 != 0) = false := bne_eq_false_iff_eq.mpr c18
     clear c18
     by_cases c19 : t314 = 0
     ·
      rw [if_pos c19] at H
      have c19b0 : (t314 == 0) = true := beq_iff_eq.mpr c19
      have c19b1 : (t314 != 0) = false := bne_eq_false_iff_eq.mpr c19
      clear c19
      by_cases c20 : t308.toList = t313.toList
      ·
       rw [if_pos c20] at H
       have c20b0 : (t308.toList == t313.toList) = true := beq_iff_eq.mpr c20
       have c20b1 : (t308.toList != t313.toList) = false := bne_eq_false_iff_eq.mpr c20
       clear c20
       replace H := Option.bind_eq_some_iff.mp H
       obtain ⟨t315, A210, H⟩ := H
       replace H : (some t315) = some r := H
       have A21 := Aside0.mk A210
       clear A210
       obtain rfl := Option.some.inj H
       go_wp2_with (first | ((with_reducible refine gate_callee (f := 21) rfl ?_); refine goesL_ (some 23) rfl rfl Tryd.func21 (by kernel_rfl) rfl #[.string a0] rfl (by (try simp only [List.map_toArray, List.map_cons, List.map_nil]); first | done | rfl | (simp only [List.length_drop, List.length_take]; rfl)) ?_; (with_reducible refine (spanin_Parse.calls a0 t305 _ ?side1 A14.out).mono ?_); (case side1 => first | exact HT.out | exact Tabs.at HT.out (by repeat (with_reducible first | exact HB.out | apply below_alloc | apply pw_below_drewN | apply below_drew1))); rintro e w22 ⟨v306, rfl, ho0, hb⟩; refine ⟨_, rfl, ?_⟩; have n0_ := Aside0.mk (Kd.R_lower ho0 (below_size (by repeat (with_reducible first | exact HB.out | apply below_alloc | apply pw_below_drewN | apply below_drew1)))); have n1_ := Aside0.mk (below_step (by repeat (with_reducible first | exact HB.out | apply below_alloc | apply pw_below_drewN | apply below_drew1)) hb); clear HB; have HO307 := n0_; have HB := n1_; clear n0_ n1_; (try clear hb); (try clear hb2); (try clear hk); (try clear hi); (try clear ho0); obtain ⟨Ao23, co23, eo23⟩ := Kd.R_slice HO307.out; subst eo23) | ((with_reducible refine gate_callee (f := 31) rfl ?_); refine goesL_ (some 26) rfl rfl Tryd.func31 (by kernel_rfl) rfl #[.slice Ao23 t305.length co23] rfl (by (try simp only [List.map_toArray, List.map_cons, List.map_nil]); first | done | rfl | (simp only [List.length_drop, List.length_take]; rfl)) ?_; (with_reducible refine (spanout_Write.calls _ _ t305 t308 t309 _ ?side3 ?side1 ?side2 A15.out).mono ?_); (case side1 => repeat (first | exact (Kd.R_reads' HO307.out).2.2 | (with_reducible refine Kd.C_alloc ?_ _) | (with_reducible refine Kd.C_drewN ?_ _) | (with_reducible refine Kd.C_drew ?_))); (case side2 => exact (Kd.R_reads' HO307.out).2.1); (case side3 => first | exact HT.out | exact Tabs.at HT.out (by repeat (with_reducible first | exact HB.out | apply below_alloc | apply pw_below_drewN | apply below_drew1))); rintro e w24 ⟨rfl, hb⟩; refine ⟨_, rfl, ?_⟩; have n0_ := Aside0.mk (Kd.R_below (by (with_reducible repeat (first | apply Kd.R_alloc | apply Kd.R_drewN | apply Kd.R_drew)); exact HO307.out) hb); have n1_ := Aside0.mk (below_step (by repeat (with_reducible first | exact HB.out | apply below_alloc | apply pw_below_drewN | apply below_drew1)) hb); clear HO307; clear HB; have HO307 := n0_; have HB := n1_; clear n0_ n1_; (try clear hb); (try clear hb2); (try clear hk); (try clear hi)) | ((with_reducible refine gate_callee (f := 21) rfl ?_); refine goesL_ (some 30) rfl rfl Tryd.func21 (by kernel_rfl) rfl #[.string t308] rfl (by (try simp only [List.map_toArray, List.map_cons, List.map_nil]); first | done | rfl | (simp only [List.length_drop, List.length_take]; rfl)) ?_; (with_reducible refine (spanin_Parse.calls t308 t310 _ ?side1 A16.out).mono ?_); (case side1 => first | exact HT.out | exact Tabs.at HT.out (by repeat (with_reducible first | exact HB.out | apply below_alloc | apply pw_below_drewN | apply below_drew1))); rintro e w25 ⟨v311, rfl, ho0, hb⟩; refine ⟨_, rfl, ?_⟩; have n0_ := Aside0.mk (Kd.R_elder' (by (with_reducible repeat (first | apply Kd.R_alloc | apply Kd.R_drewN | apply Kd.R_drew)); exact HO307.out) (Kd.R_base ho0) hb); have n1_ := Aside0.mk (Kd.R_lower (Kd.R_new' ho0 (Kd.R_lt (by (with_reducible repeat (first | apply Kd.R_alloc | apply Kd.R_drewN | apply Kd.R_drew)); exact HO307.out))) (below_size (by repeat (with_reducible first | exact HB.out | apply below_alloc | apply pw_below_drewN | apply below_drew1)))); have n2_ := Aside0.mk (below_step (by repeat (with_reducible first | exact HB.out | apply below_alloc | apply pw_below_drewN | apply below_drew1)) hb); clear HO307; clear HB; have HO307 := n0_; have HO312 := n1_; have HB := n2_; clear n0_ n1_ n2_; (try clear hb); (try clear hb2); (try clear hk); (try clear hi); (try clear ho0); obtain ⟨Ao26, co26, eo26⟩ := Kd.R_slice HO312.out; subst eo26) | ((with_reducible refine gate_callee (f := 31) rfl ?_); refine goesL_ (some 33) rfl rfl Tryd.func31 (by kernel_rfl) rfl #[.slice Ao26 t310.length co26] rfl (by (try simp only [List.map_toArray, List.map_cons, List.map_nil]); first | done | rfl | (simp only [List.length_drop, List.length_take]; rfl)) ?_; (with_reducible refine (spanout_Write.calls _ _ t310 t313 t314 _ ?side3 ?side1 ?side2 A17.out).mono ?_); (case side1 => repeat (first | exact (Kd.R_reads' HO312.out).2.2 | (with_reducible refine Kd.C_alloc ?_ _) | (with_reducible refine Kd.C_drewN ?_ _) | (with_reducible refine Kd.C_drew ?_))); (case side2 => exact (Kd.R_reads' HO312.out).2.1); (case side3 => first | exact HT.out | exact Tabs.at HT.out (by repeat (with_reducible first | exact HB.out | apply below_alloc | apply pw_below_drewN | apply below_drew1))); rintro e w27 ⟨rfl, hb⟩; refine ⟨_, rfl, ?_⟩; have n0_ := Aside0.mk (Kd.R_below (by (with_reducible repeat (first | apply Kd.R_alloc | apply Kd.R_drewN | apply Kd.R_drew)); exact HO307.out) hb); have n1_ := Aside0.mk (Kd.R_below (by (with_reducible repeat (first | apply Kd.R_alloc | apply Kd.R_drewN | apply Kd.R_drew)); exact HO312.out) hb); have n2_ := Aside0.mk (below_step (by repeat (with_reducible first | exact HB.out | apply below_alloc | apply pw_below_drewN | apply below_drew1)) hb); clear HO307; clear HO312; clear HB; have HO307 := n0_; have HO312 := n1_; have HB := n2_; clear n0_ n1_ n2_; (try clear hb); (try clear hb2); (try clear hk); (try clear hi); have tkA21 : True := trivial) | (go_at_call 20; clear tkA21; (with_reducible refine (emendationref07_Same.calls _ _ t310 _ _ t305 t315 _ ?side1 ?side2 ?side3 ?side4 A21.out).mono ?_); (case side1 => repeat (first | exact (Kd.R_reads' HO312.out).2.2 | (with_reducible refine Kd.C_alloc ?_ _) | (with_reducible refine Kd.C_drewN ?_ _) | (with_reducible refine Kd.C_drew ?_))); (case side2 => exact (Kd.R_reads' HO312.out).2.1); (case side3 => repeat (first | exact (Kd.R_reads' HO307.out).2.2 | (with_reducible refine Kd.C_alloc ?_ _) | (with_reducible refine Kd.C_drewN ?_ _) | (with_reducible refine Kd.C_drew ?_))); (case side4 => exact (Kd.R_reads' HO307.out).2.1); rintro e w' ⟨rfl, ⟨nd, rfl⟩⟩))
       go_ret
       exact ⟨by first | rfl | (simp [errW_none, errW_some] <;> rfl) | (simp [*, errW_none, errW_some] <;> rfl), by repeat (with_reducible first | exact HB.out | apply below_alloc | apply pw_below_drewN | apply below_drew1)⟩
      ·
       rw [if_neg c20] at H
       have c20b0 : (t308.toList == t313.toList) = false := beq_eq_false_iff_ne.mpr c20
       have c20b1 : (t308.toList != t313.toList) = true := bne_iff_ne.mpr c20
       obtain rfl := Option.some.inj H
       go_wp2_with (first | ((with_reducible refine gate_callee (f := 21) rfl ?_); refine goesL_ (some 23) rfl rfl Tryd.func21 (by kernel_rfl) rfl #[.string a0] rfl (by (try simp only [List.map_toArray, List.map_cons, List.map_nil]); first | done | rfl | (simp only [List.length_drop, List.length_take]; rfl)) ?_; (with_reducible refine (spanin_Parse.calls a0 t305 _ ?side1 A14.out).mono ?_); (case side1 => first | exact HT.out | exact Tabs.at HT.out (by repeat (with_reducible first | exact HB.out | apply below_alloc | apply pw_below_drewN | apply below_drew1))); rintro e w28 ⟨v306, rfl, ho0, hb⟩; refine ⟨_, rfl, ?_⟩; have n0_ := Aside0.mk (Kd.R_lower ho0 (below_size (by repeat (with_reducible first | exact HB.out | apply below_alloc | apply pw_below_drewN | apply below_drew1)))); have n1_ := Aside0.mk (below_step (by repeat (with_reducible first | exact HB.out | apply below_alloc | apply pw_below_drewN | apply below_drew1)) hb); clear HB; have HO307 := n0_; have HB := n1_; clear n0_ n1_; (try clear hb); (try clear hb2); (try clear hk); (try clear hi); (try clear ho0); obtain ⟨Ao29, co29, eo29⟩ := Kd.R_slice HO307.out; subst eo29) | ((with_reducible refine gate_callee (f := 31) rfl ?_); refine goesL_ (some 26) rfl rfl Tryd.func31 (by kernel_rfl) rfl #[.slice Ao29 t305.length co29] rfl (by (try simp only [List.map_toArray, List.map_cons, List.map_nil]); first | done | rfl | (simp only [List.length_drop, List.length_take]; rfl)) ?_; (with_reducible refine (spanout_Write.calls _ _ t305 t308 t309 _ ?side3 ?side1 ?side2 A15.out).mono ?_); (case side1 => repeat (first | exact (Kd.R_reads' HO307.out).2.2 | (with_reducible refine Kd.C_alloc ?_ _) | (with_reducible refine Kd.C_drewN ?_ _) | (with_reducible refine Kd.C_drew ?_))); (case side2 => exact (Kd.R_reads' HO307.out).2.1); (case side3 => first | exact HT.out | exact Tabs.at HT.out (by repeat (with_reducible first | exact HB.out | apply below_alloc | apply pw_below_drewN | apply below_drew1))); rintro e w30 ⟨rfl, hb⟩; refine ⟨_, rfl, ?_⟩; have n0_ := Aside0.mk (Kd.R_below (by (with_reducible repeat (first | apply Kd.R_alloc | apply Kd.R_drewN | apply Kd.R_drew)); exact HO307.out) hb); have n1_ := Aside0.mk (below_step (by repeat (with_reducible first | exact HB.out | apply below_alloc | apply pw_below_drewN | apply below_drew1)) hb); clear HO307; clear HB; have HO307 := n0_; have HB := n1_; clear n0_ n1_; (try clear hb); (try clear hb2); (try clear hk); (try clear hi)) | ((with_reducible refine gate_callee (f := 21) rfl ?_); refine goesL_ (some 30) rfl rfl Tryd.func21 (by kernel_rfl) rfl #[.string t308] rfl (by (try simp only [List.map_toArray, List.map_cons, List.map_nil]); first | done | rfl | (simp only [List.length_drop, List.length_take]; rfl)) ?_; (with_reducible refine (spanin_Parse.calls t308 t310 _ ?side1 A16.out).mono ?_); (case side1 => first | exact HT.out | exact Tabs.at HT.out (by repeat (with_reducible first | exact HB.out | apply below_alloc | apply pw_below_drewN | apply below_drew1))); rintro e w31 ⟨v311, rfl, ho0, hb⟩; refine ⟨_, rfl, ?_⟩; have n0_ := Aside0.mk (Kd.R_elder' (by (with_reducible repeat (first | apply Kd.R_alloc | apply Kd.R_drewN | apply Kd.R_drew)); exact HO307.out) (Kd.R_base ho0) hb); have n1_ := Aside0.mk (Kd.R_lower (Kd.R_new' ho0 (Kd.R_lt (by (with_reducible repeat (first | apply Kd.R_alloc | apply Kd.R_drewN | apply Kd.R_drew)); exact HO307.out))) (below_size (by repeat (with_reducible first | exact HB.out | apply below_alloc | apply pw_below_drewN | apply below_drew1)))); have n2_ := Aside0.mk (below_step (by repeat (with_reducible first | exact HB.out | apply below_alloc | apply pw_below_drewN | apply below_drew1)) hb); clear HO307; clear HB; have HO307 := n0_; have HO312 := n1_; have HB := n2_; clear n0_ n1_ n2_; (try clear hb); (try clear hb2); (try clear hk); (try clear hi); (try clear ho0); obtain ⟨Ao32, co32, eo32⟩ := Kd.R_slice HO312.out; subst eo32) | ((with_reducible refine gate_callee (f := 31) rfl ?_); refine goesL_ (some 33) rfl rfl Tryd.func31 (by kernel_rfl) rfl #[.slice Ao32 t310.length co32] rfl (by (try simp only [List.map_toArray, List.map_cons, List.map_nil]); first | done | rfl | (simp only [List.length_drop, List.length_take]; rfl)) ?_; (with_reducible refine (spanout_Write.calls _ _ t310 t313 t314 _ ?side3 ?side1 ?side2 A17.out).mono ?_); (case side1 => repeat (first | exact (Kd.R_reads' HO312.out).2.2 | (with_reducible refine Kd.C_alloc ?_ _) | (with_reducible refine Kd.C_drewN ?_ _) | (with_reducible refine Kd.C_drew ?_))); (case side2 => exact (Kd.R_reads' HO312.out).2.1); (case side3 => first | exact HT.out | exact Tabs.at HT.out (by repeat (with_reducible first | exact HB.out | apply below_alloc | apply pw_below_drewN | apply below_drew1))); rintro e w33 ⟨rfl, hb⟩; refine ⟨_, rfl, ?_⟩; have n0_ := Aside0.mk (Kd.R_below (by (with_reducible repeat (first | apply Kd.R_alloc | apply Kd.R_drewN | apply Kd.R_drew)); exact HO307.out) hb); have n1_ := Aside0.mk (Kd.R_below (by (with_reducible repeat (first | apply Kd.R_alloc | apply Kd.R_drewN | apply Kd.R_drew)); exact HO312.out) hb); have n2_ := Aside0.mk (below_step (by repeat (with_reducible first | exact HB.out | apply below_alloc | apply pw_below_drewN | apply below_drew1)) hb); clear HO307; clear HO312; clear HB; have HO307 := n0_; have HO312 := n1_; have HB := n2_; clear n0_ n1_ n2_; (try clear hb); (try clear hb2); (try clear hk); (try clear hi)))
       go_ret
       exact ⟨by first | rfl | (simp [errW_none, errW_some] <;> rfl) | (simp [*, errW_none, errW_some] <;> rfl), by repeat (with_reducible first | exact HB.out | apply below_alloc | apply pw_below_drewN | apply below_drew1)⟩
     ·
      rw [if_neg c19] at H
      have c19b0 : (t314 == 0) = false := beq_eq_false_iff_ne.mpr c19
      have c19b1 : (t314 != 0) = true := bne_iff_ne.mpr c19
      obtain rfl := Option.some.inj H
      go_wp2_with (first | ((with_reducible refine gate_callee (f := 21) rfl ?_); refine goesL_ (some 23) rfl rfl Tryd.func21 (by kernel_rfl) rfl #[.string a0] rfl (by (try simp only [List.map_toArray, List.map_cons, List.map_nil]); first | done | rfl | (simp only [List.length_drop, List.length_take]; rfl)) ?_; (with_reducible refine (spanin_Parse.calls a0 t305 _ ?side1 A14.out).mono ?_); (case side1 => first | exact HT.out | exact Tabs.at HT.out (by repeat (with_reducible first | exact HB.out | apply below_alloc | apply pw_below_drewN | apply below_drew1))); rintro e w34 ⟨v306, rfl, ho0, hb⟩; refine ⟨_, rfl, ?_⟩; have n0_ := Aside0.mk (Kd.R_lower ho0 (below_size (by repeat (with_reducible first | exact HB.out | apply below_alloc | apply pw_below_drewN | apply below_drew1)))); have n1_ := Aside0.mk (below_step (by repeat (with_reducible first | exact HB.out | apply below_alloc | apply pw_below_drewN | apply below_drew1)) hb); clear HB; have HO307 := n0_; have HB := n1_; clear n0_ n1_; (try clear hb); (try clear hb2); (try clear hk); (try clear hi); (try clear ho0); obtain ⟨Ao35, co35, eo35⟩ := Kd.R_slice HO307.out; subst eo35) | ((with_reducible refine gate_callee (f := 31) rfl ?_); refine goesL_ (some 26) rfl rfl Tryd.func31 (by kernel_rfl) rfl #[.slice Ao35 t305.length co35] rfl (by (try simp only [List.map_toArray, List.map_cons, List.map_nil]); first | done | rfl | (simp only [List.length_drop, List.length_take]; rfl)) ?_; (with_reducible refine (spanout_Write.calls _ _ t305 t308 t309 _ ?side3 ?side1 ?side2 A15.out).mono ?_); (case side1 => repeat (first | exact (Kd.R_reads' HO307.out).2.2 | (with_reducible refine Kd.C_alloc ?_ _) | (with_reducible refine Kd.C_drewN ?_ _) | (with_reducible refine Kd.C_drew ?_))); (case side2 => exact (Kd.R_reads' HO307.out).2.1); (case side3 => first | exact HT.out | exact Tabs.at HT.out (by repeat (with_reducible first | exact HB.out | apply below_alloc | apply pw_below_drewN | apply below_drew1))); rintro e w36 ⟨rfl, hb⟩; refine ⟨_, rfl, ?_⟩; have n0_ := Aside0.mk (Kd.R_below (by (with_reducible repeat (first | apply Kd.R_alloc | apply Kd.R_drewN | apply Kd.R_drew)); exact HO307.out) hb); have n1_ := Aside0.mk (below_step (by repeat (with_reducible first | exact HB.out | apply below_alloc | apply pw_below_drewN | apply below_drew1)) hb); clear HO307; clear HB; have HO307 := n0_; have HB := n1_; clear n0_ n1_; (try clear hb); (try clear hb2); (try clear hk); (try clear hi)) | ((with_reducible refine gate_callee (f := 21) rfl ?_); refine goesL_ (some 30) rfl rfl Tryd.func21 (by kernel_rfl) rfl #[.string t308] rfl (by (try simp only [List.map_toArray, List.map_cons, List.map_nil]); first | done | rfl | (simp only [List.length_drop, List.length_take]; rfl)) ?_; (with_reducible refine (spanin_Parse.calls t308 t310 _ ?side1 A16.out).mono ?_); (case side1 => first | exact HT.out | exact Tabs.at HT.out (by repeat (with_reducible first | exact HB.out | apply below_alloc | apply pw_below_drewN | apply below_drew1))); rintro e w37 ⟨v311, rfl, ho0, hb⟩; refine ⟨_, rfl, ?_⟩; have n0_ := Aside0.mk (Kd.R_elder' (by (with_reducible repeat (first | apply Kd.R_alloc | apply Kd.R_drewN | apply Kd.R_drew)); exact HO307.out) (Kd.R_base ho0) hb); have n1_ := Aside0.mk (Kd.R_lower (Kd.R_new' ho0 (Kd.R_lt (by (with_reducible repeat (first | apply Kd.R_alloc | apply Kd.R_drewN | apply Kd.R_drew)); exact HO307.out))) (below_size (by repeat (with_reducible first | exact HB.out | apply below_alloc | apply pw_below_drewN | apply below_drew1)))); have n2_ := Aside0.mk (below_step (by repeat (with_reducible first | exact HB.out | apply below_alloc | apply pw_below_drewN | apply below_drew1)) hb); clear HO307; clear HB; have HO307 := n0_; have HO312 := n1_; have HB := n2_; clear n0_ n1_ n2_; (try clear hb); (try clear hb2); (try clear hk); (try clear hi); (try clear ho0); obtain ⟨Ao38, co38, eo38⟩ := Kd.R_slice HO312.out; subst eo38) | ((with_reducible refine gate_callee (f := 31) rfl ?_); refine goesL_ (some 33) rfl rfl Tryd.func31 (by kernel_rfl) rfl #[.slice Ao38 t310.length co38] rfl (by (try simp only [List.map_toArray, List.map_cons, List.map_nil]); first | done | rfl | (simp only [List.length_drop, List.length_take]; rfl)) ?_; (with_reducible refine (spanout_Write.calls _ _ t310 t313 t314 _ ?side3 ?side1 ?side2 A17.out).mono ?_); (case side1 => repeat (first | exact (Kd.R_reads' HO312.out).2.2 | (with_reducible refine Kd.C_alloc ?_ _) | (with_reducible refine Kd.C_drewN ?_ _) | (with_reducible refine Kd.C_drew ?_))); (case side2 => exact (Kd.R_reads' HO312.out).2.1); (case side3 => first | exact HT.out | exact Tabs.at HT.out (by repeat (with_reducible first | exact HB.out | apply below_alloc | apply pw_below_drewN | apply below_drew1))); rintro e w39 ⟨rfl, hb⟩; refine ⟨_, rfl, ?_⟩; have n0_ := Aside0.mk (Kd.R_below (by (with_reducible repeat (first | apply Kd.R_alloc | apply Kd.R_drewN | apply Kd.R_drew)); exact HO307.out) hb); have n1_ := Aside0.mk (Kd.R_below (by (with_reducible repeat (first | apply Kd.R_alloc | apply Kd.R_drewN | apply Kd.R_drew)); exact HO312.out) hb); have n2_ := Aside0.mk (below_step (by repeat (with_reducible first | exact HB.out | apply below_alloc | apply pw_below_drewN | apply below_drew1)) hb); clear HO307; clear HO312; clear HB; have HO307 := n0_; have HO312 := n1_; have HB := n2_; clear n0_ n1_ n2_; (try clear hb); (try clear hb2); (try clear hk); (try clear hi)))
      go_ret
      exact ⟨by first | rfl | (simp [errW_none, errW_some] <;> rfl) | (simp [*, errW_none, errW_some] <;> rfl), by repeat (with_reducible first | exact HB.out | apply below_alloc | apply pw_below_drewN | apply below_drew1)⟩
    ·
     rw [if_neg c18] at H
     have c18b0 : (t309 == 0) = false := beq_eq_false_iff_ne.mpr c18
     have c18b1 : (t309 != 0) = true := bne_iff_ne.mpr c18
     obtain rfl := Option.some.inj H
     go_wp2_with (first | ((with_reducible refine gate_callee (f := 21) rfl ?_); refine goesL_ (some 23) rfl rfl Tryd.func21 (by kernel_rfl) rfl #[.string a0] rfl (by (try simp only [List.map_toArray, List.map_cons, List.map_nil]); first | done | rfl | (simp only [List.length_drop, List.length_take]; rfl)) ?_; (with_reducible refine (spanin_Parse.calls a0 t305 _ ?side1 A14.out).mono ?_); (case side1 => first | exact HT.out | exact Tabs.at HT.out (by repeat (with_reducible first | exact HB.out | apply below_alloc | apply pw_below_drewN | apply below_drew1))); rintro e w40 ⟨v306, rfl, ho0, hb⟩; refine ⟨_, rfl, ?_⟩; have n0_ := Aside0.mk (Kd.R_lower ho0 (below_size (by repeat (with_reducible first | exact HB.out | apply below_alloc | apply pw_below_drewN | apply below_drew1)))); have n1_ := Aside0.mk (below_step (by repeat (with_reducible first | exact HB.out | apply below_alloc | apply pw_below_drewN | apply below_drew1)) hb); clear HB; have HO307 := n0_; have HB := n1_; clear n0_ n1_; (try clear hb); (try clear hb2); (try clear hk); (try clear hi); (try clear ho0); obtain ⟨Ao41, co41, eo41⟩ := Kd.R_slice HO307.out; subst eo41) | ((with_reducible refine gate_callee (f := 31) rfl ?_); refine goesL_ (some 26) rfl rfl Tryd.func31 (by kernel_rfl) rfl #[.slice Ao41 t305.length co41] rfl (by (try simp only [List.map_toArray, List.map_cons, List.map_nil]); first | done | rfl | (simp only [List.length_drop, List.length_take]; rfl)) ?_; (with_reducible refine (spanout_Write.calls _ _ t305 t308 t309 _ ?side3 ?side1 ?side2 A15.out).mono ?_); (case side1 => repeat (first | exact (Kd.R_reads' HO307.out).2.2 | (with_reducible refine Kd.C_alloc ?_ _) | (with_reducible refine Kd.C_drewN ?_ _) | (with_reducible refine Kd.C_drew ?_))); (case side2 => exact (Kd.R_reads' HO307.out).2.1); (case side3 => first | exact HT.out | exact Tabs.at HT.out (by repeat (with_reducible first | exact HB.out | apply below_alloc | apply pw_below_drewN | apply below_drew1))); rintro e w42 ⟨rfl, hb⟩; refine ⟨_, rfl, ?_⟩; have n0_ := Aside0.mk (Kd.R_below (by (with_reducible repeat (first | apply Kd.R_alloc | apply Kd.R_drewN | apply Kd.R_drew)); exact HO307.out) hb); have n1_ := Aside0.mk (below_step (by repeat (with_reducible first | exact HB.out | apply below_alloc | apply pw_below_drewN | apply below_drew1)) hb); clear HO307; clear HB; have HO307 := n0_; have HB := n1_; clear n0_ n1_; (try clear hb); (try clear hb2); (try clear hk); (try clear hi)) | ((with_reducible refine gate_callee (f := 21) rfl ?_); refine goesL_ (some 30) rfl rfl Tryd.func21 (by kernel_rfl) rfl #[.string t308] rfl (by (try simp only [List.map_toArray, List.map_cons, List.map_nil]); first | done | rfl | (simp only [List.length_drop, List.length_take]; rfl)) ?_; (with_reducible refine (spanin_Parse.calls t308 t310 _ ?side1 A16.out).mono ?_); (case side1 => first | exact HT.out | exact Tabs.at HT.out (by repeat (with_reducible first | exact HB.out | apply below_alloc | apply pw_below_drewN | apply below_drew1))); rintro e w43 ⟨v311, rfl, ho0, hb⟩; refine ⟨_, rfl, ?_⟩; have n0_ := Aside0.mk (Kd.R_elder' (by (with_reducible repeat (first | apply Kd.R_alloc | apply Kd.R_drewN | apply Kd.R_drew)); exact HO307.out) (Kd.R_base ho0) hb); have n1_ := Aside0.mk (Kd.R_lower (Kd.R_new' ho0 (Kd.R_lt (by (with_reducible repeat (first | apply Kd.R_alloc | apply Kd.R_drewN | apply Kd.R_drew)); exact HO307.out))) (below_size (by repeat (with_reducible first | exact HB.out | apply below_alloc | apply pw_below_drewN | apply below_drew1)))); have n2_ := Aside0.mk (below_step (by repeat (with_reducible first | exact HB.out | apply below_alloc | apply pw_below_drewN | apply below_drew1)) hb); clear HO307; clear HB; have HO307 := n0_; have HO312 := n1_; have HB := n2_; clear n0_ n1_ n2_; (try clear hb); (try clear hb2); (try clear hk); (try clear hi); (try clear ho0); obtain ⟨Ao44, co44, eo44⟩ := Kd.R_slice HO312.out; subst eo44) | ((with_reducible refine gate_callee (f := 31) rfl ?_); refine goesL_ (some 33) rfl rfl Tryd.func31 (by kernel_rfl) rfl #[.slice Ao44 t310.length co44] rfl (by (try simp only [List.map_toArray, List.map_cons, List.map_nil]); first | done | rfl | (simp only [List.length_drop, List.length_take]; rfl)) ?_; (with_reducible refine (spanout_Write.calls _ _ t310 t313 t314 _ ?side3 ?side1 ?side2 A17.out).mono ?_); (case side1 => repeat (first | exact (Kd.R_reads' HO312.out).2.2 | (with_reducible refine Kd.C_alloc ?_ _) | (with_reducible refine Kd.C_drewN ?_ _) | (with_reducible refine Kd.C_drew ?_))); (case side2 => exact (Kd.R_reads' HO312.out).2.1); (case side3 => first | exact HT.out | exact Tabs.at HT.out (by repeat (with_reducible first | exact HB.out | apply below_alloc | apply pw_below_drewN | apply below_drew1))); rintro e w45 ⟨rfl, hb⟩; refine ⟨_, rfl, ?_⟩; have n0_ := Aside0.mk (Kd.R_below (by (with_reducible repeat (first | apply Kd.R_alloc | apply Kd.R_drewN | apply Kd.R_drew)); exact HO307.out) hb); have n1_ := Aside0.mk (Kd.R_below (by (with_reducible repeat (first | apply Kd.R_alloc | apply Kd.R_drewN | apply Kd.R_drew)); exact HO312.out) hb); have n2_ := Aside0.mk (below_step (by repeat (with_reducible first | exact HB.out | apply below_alloc | apply pw_below_drewN | apply below_drew1)) hb); clear HO307; clear HO312; clear HB; have HO307 := n0_; have HO312 := n1_; have HB := n2_; clear n0_ n1_ n2_; (try clear hb); (try clear hb2); (try clear hk); (try clear hi)))
     go_ret
     exact ⟨by first | rfl | (simp [errW_none, errW_some] <;> rfl) | (simp [*, errW_none, errW_some] <;> rfl), by repeat (with_reducible first | exact HB.out | apply below_alloc | apply pw_below_drewN | apply below_drew1)⟩

end Go.Proofs.YtmfffpfenhgjbaaDoor.X
