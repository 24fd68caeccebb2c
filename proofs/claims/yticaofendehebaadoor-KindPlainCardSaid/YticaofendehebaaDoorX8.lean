-- Written by a program of this session (wip/mkprint.py over the kit's print) out of the translation; Lean checks it.
import Derived.Test.YticaofendehebaaDoorX0
import Derived.Test.YticaofendehebaaDoorX7
import Derived.Test.YticaofendehebaaDoorGivenTabs
namespace Go.Proofs.YticaofendehebaaDoor.X
open Go.RowKit Go.Proofs.YticaofendehebaaDoor.G Go.Proofs.YticaofendehebaaDoorW.PrintWords Go.Proofs.YticaofendehebaaDoorW.PrintLast Go.Proofs.YticaofendehebaaDoorW.PrintMore
attribute [local go_sem] max2_int min2_int max_two min_two max_three min_three max_four min_four   -- for this text's walks alone
set_option linter.unusedVariables false
set_option linter.unusedSimpArgs false

/-! ### emendationlaw11_KindPlain: function 3 -/
mutual
def emendationlaw11_KindPlain.j0 : Nat → ByteArray → Int → Bool → Option (Bool)
 | 0, _, _, _ => none
 | k + 1, x0, x1, x15 => if x15 = true then ((emendationlaw11_awake.f k).bind fun t160 => (some t160)) else (if x1 ≥ 97 then (if x1 ≤ 122 then (emendationlaw11_KindPlain.j1 k x0 x1 true) else (if x1 ≥ 65 then (if x1 ≤ 90 then (emendationlaw11_KindPlain.j1 k x0 x1 true) else (if x1 ≥ 48 then (if x1 ≤ 57 then (emendationlaw11_KindPlain.j1 k x0 x1 true) else (if x1 ≥ 128 then (emendationlaw11_KindPlain.j1 k x0 x1 true) else (if x1 = 92 then (emendationlaw11_KindPlain.j1 k x0 x1 true) else (emendationlaw11_KindPlain.j1 k x0 x1 (x1 == 42))))) else (if x1 ≥ 128 then (emendationlaw11_KindPlain.j1 k x0 x1 true) else (if x1 = 92 then (emendationlaw11_KindPlain.j1 k x0 x1 true) else (emendationlaw11_KindPlain.j1 k x0 x1 (x1 == 42)))))) else (if x1 ≥ 48 then (if x1 ≤ 57 then (emendationlaw11_KindPlain.j1 k x0 x1 true) else (if x1 ≥ 128 then (emendationlaw11_KindPlain.j1 k x0 x1 true) else (if x1 = 92 then (emendationlaw11_KindPlain.j1 k x0 x1 true) else (emendationlaw11_KindPlain.j1 k x0 x1 (x1 == 42))))) else (if x1 ≥ 128 then (emendationlaw11_KindPlain.j1 k x0 x1 true) else (if x1 = 92 then (emendationlaw11_KindPlain.j1 k x0 x1 true) else (emendationlaw11_KindPlain.j1 k x0 x1 (x1 == 42))))))) else (if x1 ≥ 65 then (if x1 ≤ 90 then (emendationlaw11_KindPlain.j1 k x0 x1 true) else (if x1 ≥ 48 then (if x1 ≤ 57 then (emendationlaw11_KindPlain.j1 k x0 x1 true) else (if x1 ≥ 128 then (emendationlaw11_KindPlain.j1 k x0 x1 true) else (if x1 = 92 then (emendationlaw11_KindPlain.j1 k x0 x1 true) else (emendationlaw11_KindPlain.j1 k x0 x1 (x1 == 42))))) else (if x1 ≥ 128 then (emendationlaw11_KindPlain.j1 k x0 x1 true) else (if x1 = 92 then (emendationlaw11_KindPlain.j1 k x0 x1 true) else (emendationlaw11_KindPlain.j1 k x0 x1 (x1 == 42)))))) else (if x1 ≥ 48 then (if x1 ≤ 57 then (emendationlaw11_KindPlain.j1 k x0 x1 true) else (if x1 ≥ 128 then (emendationlaw11_KindPlain.j1 k x0 x1 true) else (if x1 = 92 then (emendationlaw11_KindPlain.j1 k x0 x1 true) else (emendationlaw11_KindPlain.j1 k x0 x1 (x1 == 42))))) else (if x1 ≥ 128 then (emendationlaw11_KindPlain.j1 k x0 x1 true) else (if x1 = 92 then (emendationlaw11_KindPlain.j1 k x0 x1 true) else (emendationlaw11_KindPlain.j1 k x0 x1 (x1 == 42)))))))
def emendationlaw11_KindPlain.j1 : Nat → ByteArray → Int → Bool → Option (Bool)
 | 0, _, _, _ => none
 | k + 1, x0, x1, x5 => if x5 = true then ((some (([x1] : List Int) : List Int)).bind fun y161 => (if (strOfNums y161).size + x0.size ≤ 9223372036854775807 then ((kind_Of.f k ((strOfNums y161) ++ x0)).bind fun t164 => (emendationlaw11_KindPlain.j2 k x0 (t164 != 8))) else (none))) else (emendationlaw11_KindPlain.j2 k x0 false)
def emendationlaw11_KindPlain.j2 : Nat → ByteArray → Bool → Option (Bool)
 | 0, _, _ => none
 | k + 1, x0, x60 => if x60 = true then (some false) else (emendationlaw11_KindPlain.l0 k x0 true (x0.size : Int) 0)
def emendationlaw11_KindPlain.l0 : Nat → ByteArray → Bool → Int → Int → Option (Bool)
 | 0, _, _, _, _ => none
 | k + 1, x0, x6, x62, x63 => if x63 < x62 then (if x6 = true then (if 0 ≤ x63 then (if x63 < (x0.size : Int) then (if (bt x0 x63) = 32 then (emendationlaw11_KindPlain.l0 k x0 true x62 (wrap64 (x63 + 1))) else (emendationlaw11_KindPlain.l0 k x0 ((bt x0 x63) == 9) x62 (wrap64 (x63 + 1)))) else (none)) else (none)) else (emendationlaw11_KindPlain.l0 k x0 false x62 (wrap64 (x63 + 1)))) else (if 1 + x0.size ≤ 9223372036854775807 then ((kind_Of.f k ((⟨#[32]⟩ : ByteArray) ++ x0)).bind fun t165 => (if ((t165 == 1) == x6) = true then (if x6 = true then (some true) else (some (t165 == 8))) else (some false))) else (none))
end
def emendationlaw11_KindPlain.f (k : Nat) (a0 : ByteArray) (a1 : Int) : Option (Bool) := (emendationlaw11_awake.f k).bind fun t159 => (if t159 = true then (emendationlaw11_KindPlain.j0 k a0 a1 (decide ((a0.size : Int) > 1000))) else (emendationlaw11_KindPlain.j0 k a0 a1 true))
set_option maxHeartbeats 8000000 in
set_option maxRecDepth 100000 in
theorem emendationlaw11_KindPlain.calls (k : Nat) (a0 : ByteArray) (a1 : Int) (r : Bool) (w : World) (hT : Tabs w) (h : emendationlaw11_KindPlain.f k a0 a1 = some r) :
  Calls Tryd.prog 3 #[.string a0, .int .u8 a1] w fun e w' => e = .returned (.bool r) ∧ Below w.heap.size w w' := by
 have HT := Aside0.mk hT
 clear hT
 have HB := Aside0.mk (Below.refl w.heap.size w)
 have H : ((emendationlaw11_awake.f k).bind fun t159 => (if t159 = true then (emendationlaw11_KindPlain.j0 k a0 a1 (decide ((a0.size : Int) > 1000))) else (emendationlaw11_KindPlain.j0 k a0 a1 true))) = some r := h
 clear h
 have HC3 := Aside0.mk H
 clear H
 go_enter Tryd.func3, Tryd.ntmps3
 go_upto_region 1 with (fail)
 go_cut [15] (fun v15 wc => ∃ (kq : Nat) (x15_2 : Bool), v15 = .bool x15_2 ∧ Aside0 (emendationlaw11_KindPlain.j0 kq a0 a1 x15_2 = some r) ∧ Aside0 (kq ≤ k) ∧ Aside0 (Below w.heap.size w wc))
 case first =>
  have H := HC3.out
  clear HC3
  replace H := Option.bind_eq_some_iff.mp H
  obtain ⟨t159, A40, H⟩ := H
  replace H : (if t159 = true then (emendationlaw11_KindPlain.j0 k a0 a1 (decide ((a0.size : Int) > 1000))) else (emendationlaw11_KindPlain.j0 k a0 a1 true)) = some r := H
  have A4 := Aside0.mk A40
  clear A40
  by_cases c5 : t159 = true
  ·
   subst c5
   have H1 : (emendationlaw11_KindPlain.j0 k a0 a1 (decide ((a0.size : Int) > 1000))) = some r := by rw [if_pos rfl] at H; exact H
   clear H
   have H := H1
   clear H1
   have H' := Aside0.mk H
   clear H
   go_wp2_with (first | ((with_reducible refine gate_callee (f := 8) rfl ?_); refine goesL_ (some 9) rfl rfl Tryd.func8 (by kernel_rfl) rfl #[] rfl (by (try simp only [List.map_toArray, List.map_cons, List.map_nil]); first | done | rfl | (simp only [List.length_drop, List.length_take]; rfl)) ?_; (with_reducible refine (emendationlaw11_awake.calls k  true _ ?side1 A4.out).mono ?_); (case side1 => first | exact HT.out | exact Tabs.at HT.out (by repeat (first | (with_reducible first | exact HB.out | apply below_alloc | apply pw_below_drewN | apply below_drew1) | exact HB.out))); rintro e w6 ⟨rfl, hb⟩; refine ⟨_, rfl, ?_⟩; have n0_ := Aside0.mk (below_step (by repeat (first | (with_reducible first | exact HB.out | apply below_alloc | apply pw_below_drewN | apply below_drew1) | exact HB.out)) hb); clear HB; have HB := n0_; clear n0_; (try clear hb); (try clear hb2); (try clear hk); (try clear hi)))
   go_meet
   case rel => exact ⟨_, (decide ((a0.size : Int) > 1000)), (by first | rfl | (simp; done) | (simp [*]; done) | (simp [bne, beq_nil_E]; done)), H', ⟨by first | omega | exact Nat.le_refl _⟩, ⟨by repeat (first | (with_reducible first | exact HB.out | apply below_alloc | apply pw_below_drewN | apply below_drew1) | exact HB.out)⟩⟩
  ·
   replace c5 := Bool.eq_false_iff.mpr c5
   subst c5
   have H1 : (emendationlaw11_KindPlain.j0 k a0 a1 true) = some r := by rw [if_neg (show ¬ (false = true) by decide)] at H; exact H
   clear H
   have H := H1
   clear H1
   have H' := Aside0.mk H
   clear H
   go_wp2_with (first | ((with_reducible refine gate_callee (f := 8) rfl ?_); refine goesL_ (some 9) rfl rfl Tryd.func8 (by kernel_rfl) rfl #[] rfl (by (try simp only [List.map_toArray, List.map_cons, List.map_nil]); first | done | rfl | (simp only [List.length_drop, List.length_take]; rfl)) ?_; (with_reducible refine (emendationlaw11_awake.calls k  false _ ?side1 A4.out).mono ?_); (case side1 => first | exact HT.out | exact Tabs.at HT.out (by repeat (first | (with_reducible first | exact HB.out | apply below_alloc | apply pw_below_drewN | apply below_drew1) | exact HB.out))); rintro e w7 ⟨rfl, hb⟩; refine ⟨_, rfl, ?_⟩; have n0_ := Aside0.mk (below_step (by repeat (first | (with_reducible first | exact HB.out | apply below_alloc | apply pw_below_drewN | apply below_drew1) | exact HB.out)) hb); clear HB; have HB := n0_; clear n0_; (try clear hb); (try clear hb2); (try clear hk); (try clear hi)))
   go_meet
   case rel => exact ⟨_, (true), (by first | rfl | (simp; done) | (simp [*]; done) | (simp [bne, beq_nil_E]; done)), H', ⟨by first | omega | exact Nat.le_refl _⟩, ⟨by repeat (first | (with_reducible first | exact HB.out | apply below_alloc | apply pw_below_drewN | apply below_drew1) | exact HB.out)⟩⟩
 case rest =>
  clear HC3
  try clear p2
  try clear c3
  try clear c5
  obtain ⟨kq, x15_2, rfl, HA, HJ2, HB⟩ := hcut
  cases kq with
  | zero => exact absurd HA.out (by simp [emendationlaw11_KindPlain.j0])
  | succ kj2 =>
   have H := HA.out
   clear HA
   simp only [emendationlaw11_KindPlain.j0] at H
   by_cases c8 : x15_2 = true
   ·
    subst c8
    have H1 : ((emendationlaw11_awake.f kj2).bind fun t160 => (some t160)) = some r := by rw [if_pos rfl] at H; exact H
    clear H
    have H := H1
    clear H1
    replace H := Option.bind_eq_some_iff.mp H
    obtain ⟨t160, A90, H⟩ := H
    replace H : (some t160) = some r := H
    have A9 := Aside0.mk A90
    clear A90
    obtain rfl := Option.some.inj H
    go_wp2_with (first | ((with_reducible refine gate_callee (f := 8) rfl ?_); refine goesL_ (some 16) rfl rfl Tryd.func8 (by kernel_rfl) rfl #[] rfl (by (try simp only [List.map_toArray, List.map_cons, List.map_nil]); first | done | rfl | (simp only [List.length_drop, List.length_take]; rfl)) ?_; (with_reducible refine (emendationlaw11_awake.calls kj2  t160 _ ?side1 A9.out).mono ?_); (case side1 => first | exact HT.out | exact Tabs.at HT.out (by repeat (first | (with_reducible first | exact HB.out | apply below_alloc | apply pw_below_drewN | apply below_drew1) | exact HB.out))); rintro e w10 ⟨rfl, hb⟩; refine ⟨_, rfl, ?_⟩; have n0_ := Aside0.mk (below_step (by repeat (first | (with_reducible first | exact HB.out | apply below_alloc | apply pw_below_drewN | apply below_drew1) | exact HB.out)) hb); clear HB; have HB := n0_; clear n0_; (try clear hb); (try clear hb2); (try clear hk); (try clear hi)))
    go_ret
    exact ⟨by first | rfl | (simp [errW_none, errW_some] <;> rfl) | (simp [*, errW_none, errW_some] <;> rfl), by repeat (first | (with_reducible first | exact HB.out | apply below_alloc | apply pw_below_drewN | apply below_drew1) | exact HB.out)⟩
   ·
    replace c8 := Bool.eq_false_iff.mpr c8
    subst c8
    have H1 : (if a1 ≥ 97 then (if a1 ≤ 122 then (emendationlaw11_KindPlain.j1 kj2 a0 a1 true) else (if a1 ≥ 65 then (if a1 ≤ 90 then (emendationlaw11_KindPlain.j1 kj2 a0 a1 true) else (if a1 ≥ 48 then (if a1 ≤ 57 then (emendationlaw11_KindPlain.j1 kj2 a0 a1 true) else (if a1 ≥ 128 then (emendationlaw11_KindPlain.j1 kj2 a0 a1 true) else (if a1 = 92 then (emendationlaw11_KindPlain.j1 kj2 a0 a1 true) else (emendationlaw11_KindPlain.j1 kj2 a0 a1 (a1 == 42))))) else (if a1 ≥ 128 then (emendationlaw11_KindPlain.j1 kj2 a0 a1 true) else (if a1 = 92 then (emendationlaw11_KindPlain.j1 kj2 a0 a1 true) else (emendationlaw11_KindPlain.j1 kj2 a0 a1 (a1 == 42)))))) else (if a1 ≥ 48 then (if a1 ≤ 57 then (emendationlaw11_KindPlain.j1 kj2 a0 a1 true) else (if a1 ≥ 128 then (emendationlaw11_KindPlain.j1 kj2 a0 a1 true) else (if a1 = 92 then (emendationlaw11_KindPlain.j1 kj2 a0 a1 true) else (emendationlaw11_KindPlain.j1 kj2 a0 a1 (a1 == 42))))) else (if a1 ≥ 128 then (emendationlaw11_KindPlain.j1 kj2 a0 a1 true) else (if a1 = 92 then (emendationlaw11_KindPlain.j1 kj2 a0 a1 true) else (emendationlaw11_KindPlain.j1 kj2 a0 a1 (a1 == 42))))))) else (if a1 ≥ 65 then (if a1 ≤ 90 then (emendationlaw11_KindPlain.j1 kj2 a0 a1 true) else (if a1 ≥ 48 then (if a1 ≤ 57 then (emendationlaw11_KindPlain.j1 kj2 a0 a1 true) else (if a1 ≥ 128 then (emendationlaw11_KindPlain.j1 kj2 a0 a1 true) else (if a1 = 92 then (emendationlaw11_KindPlain.j1 kj2 a0 a1 true) else (emendationlaw11_KindPlain.j1 kj2 a0 a1 (a1 == 42))))) else (if a1 ≥ 128 then (emendationlaw11_KindPlain.j1 kj2 a0 a1 true) else (if a1 = 92 then (emendationlaw11_KindPlain.j1 kj2 a0 a1 true) else (emendationlaw11_KindPlain.j1 kj2 a0 a1 (a1 == 42)))))) else (if a1 ≥ 48 then (if a1 ≤ 57 then (emendationlaw11_KindPlain.j1 kj2 a0 a1 true) else (if a1 ≥ 128 then (emendationlaw11_KindPlain.j1 kj2 a0 a1 true) else (if a1 = 92 then (emendationlaw11_KindPlain.j1 kj2 a0 a1 true) else (emendationlaw11_KindPlain.j1 kj2 a0 a1 (a1 == 42))))) else (if a1 ≥ 128 then (emendationlaw11_KindPlain.j1 kj2 a0 a1 true) else (if a1 = 92 then (emendationlaw11_KindPlain.j1 kj2 a0 a1 true) else (emendationlaw11_KindPlain.j1 kj2 a0 a1 (a1 == 42))))))) = some r := by rw [if_neg (show ¬ (false = true) by decide)] at H; exact H
    clear H
    have H := H1
    clear H1
    have HC11 := Aside0.mk H
    clear H
    go_upto_region 3 with (fail)
    go_cut [5] (fun v5 wc => ∃ (kq : Nat) (x5_10 : Bool), v5 = .bool x5_10 ∧ Aside0 (emendationlaw11_KindPlain.j1 kq a0 a1 x5_10 = some r) ∧ Aside0 (kq ≤ kj2) ∧ Aside0 (Below w.heap.size w wc))
    case first =>
     have H := HC11.out
     clear HC11
     by_cases c12 : a1 ≥ 97
     ·
      rw [if_pos c12] at H
      have c12b0 : decide (97 ≤ a1) = true := decide_eq_true c12
      clear c12
      (first | rw [c12b0] | (simp only [i64_w, i32_w]; rw [c12b0]) | skip)
      by_cases c13 : a1 ≤ 122
      ·
       rw [if_pos c13] at H
       have c13b0 : decide (a1 ≤ 122) = true := decide_eq_true c13
       clear c13
       have H' := Aside0.mk H
       clear H
       go_wp2
       go_meet
       case rel => exact ⟨_, (true), (by first | rfl | (simp; done) | (simp [*]; done) | (simp [bne, beq_nil_E]; done)), H', ⟨by have := HJ2.out; first | omega | exact Nat.le_refl _⟩, ⟨by repeat (first | (with_reducible first | exact HB.out | apply below_alloc | apply pw_below_drewN | apply below_drew1) | exact HB.out)⟩⟩
      ·
       rw [if_neg c13] at H
       have c13b0 : decide (a1 ≤ 122) = false := decide_eq_false c13
       clear c13
       by_cases c14 : a1 ≥ 65
       ·
        rw [if_pos c14] at H
        have c14b0 : decide (65 ≤ a1) = true := decide_eq_true c14
        clear c14
        by_cases c15 : a1 ≤ 90
        ·
         rw [if_pos c15] at H
         have c15b0 : decide (a1 ≤ 90) = true := decide_eq_true c15
         clear c15
         have H' := Aside0.mk H
         clear H
         go_wp2
         go_meet
         case rel => exact ⟨_, (true), (by first | rfl | (simp; done) | (simp [*]; done) | (simp [bne, beq_nil_E]; done)), H', ⟨by have := HJ2.out; first | omega | exact Nat.le_refl _⟩, ⟨by repeat (first | (with_reducible first | exact HB.out | apply below_alloc | apply pw_below_drewN | apply below_drew1) | exact HB.out)⟩⟩
        ·
         rw [if_neg c15] at H
         have c15b0 : decide (a1 ≤ 90) = false := decide_eq_false c15
         clear c15
         by_cases c16 : a1 ≥ 48
         ·
          rw [if_pos c16] at H
          have c16b0 : decide (48 ≤ a1) = true := decide_eq_true c16
          clear c16
          by_cases c17 : a1 ≤ 57
          ·
           rw [if_pos c17] at H
           have c17b0 : decide (a1 ≤ 57) = true := decide_eq_true c17
           clear c17
           have H' := Aside0.mk H
           clear H
           go_wp2
           go_meet
           case rel => exact ⟨_, (true), (by first | rfl | (simp; done) | (simp [*]; done) | (simp [bne, beq_nil_E]; done)), H', ⟨by have := HJ2.out; first | omega | exact Nat.le_refl _⟩, ⟨by repeat (first | (with_reducible first | exact HB.out | apply below_alloc | apply pw_below_drewN | apply below_drew1) | exact HB.out)⟩⟩
          ·
           rw [if_neg c17] at H
           have c17b0 : decide (a1 ≤ 57) = false := decide_eq_false c17
           clear c17
           by_cases c18 : a1 ≥ 128
           ·
            rw [if_pos c18] at H
            have c18b0 : decide (128 ≤ a1) = true := decide_eq_true c18
            clear c18
            have H' := Aside0.mk H
            clear H
            go_wp2
            go_meet
            case rel => exact ⟨_, (true), (by first | rfl | (simp; done) | (simp [*]; done) | (simp [bne, beq_nil_E]; done)), H', ⟨by have := HJ2.out; first | omega | exact Nat.le_refl _⟩, ⟨by repeat (first | (with_reducible first | exact HB.out | apply below_alloc | apply pw_below_drewN | apply below_drew1) | exact HB.out)⟩⟩
           ·
            rw [if_neg c18] at H
            have c18b0 : decide (128 ≤ a1) = false := decide_eq_false c18
            clear c18
            by_cases c19 : a1 = 92
            ·
             rw [if_pos c19] at H
             have c19b0 : (a1 == 92) = true := beq_iff_eq.mpr c19
             have c19b1 : (a1 != 92) = false := bne_eq_false_iff_eq.mpr c19
             clear c19
             have H' := Aside0.mk H
             clear H
             go_wp2
             go_meet
             case rel => exact ⟨_, (true), (by first | rfl | (simp; done) | (simp [*]; done) | (simp [bne, beq_nil_E]; done)), H', ⟨by have := HJ2.out; first | omega | exact Nat.le_refl _⟩, ⟨by repeat (first | (with_reducible first | exact HB.out | apply below_alloc | apply pw_below_drewN | apply below_drew1) | exact HB.out)⟩⟩
            ·
             rw [if_neg c19] at H
             have c19b0 : (a1 == 92) = false := beq_eq_false_iff_ne.mpr c19
             have c19b1 : (a1 != 92) = true := bne_iff_ne.mpr c19
             have H' := Aside0.mk H
             clear H
             go_wp2
             go_meet
             case rel => exact ⟨_, ((a1 == 42)), (by first | rfl | (simp; done) | (simp [*]; done) | (simp [bne, beq_nil_E]; done)), H', ⟨by have := HJ2.out; first | omega | exact Nat.le_refl _⟩, ⟨by repeat (first | (with_reducible first | exact HB.out | apply below_alloc | apply pw_below_drewN | apply below_drew1) | exact HB.out)⟩⟩
         ·
          rw [if_neg c16] at H
          have c16b0 : decide (48 ≤ a1) = false := decide_eq_false c16
          clear c16
          by_cases c20 : a1 ≥ 128
          ·
           rw [if_pos c20] at H
           have c20b0 : decide (128 ≤ a1) = true := decide_eq_true c20
           clear c20
           have H' := Aside0.mk H
           clear H
           go_wp2
           go_meet
           case rel => exact ⟨_, (true), (by first | rfl | (simp; done) | (simp [*]; done) | (simp [bne, beq_nil_E]; done)), H', ⟨by have := HJ2.out; first | omega | exact Nat.le_refl _⟩, ⟨by repeat (first | (with_reducible first | exact HB.out | apply below_alloc | apply pw_below_drewN | apply below_drew1) | exact HB.out)⟩⟩
          ·
           rw [if_neg c20] at H
           have c20b0 : decide (128 ≤ a1) = false := decide_eq_false c20
           clear c20
           by_cases c21 : a1 = 92
           ·
            rw [if_pos c21] at H
            have c21b0 : (a1 == 92) = true := beq_iff_eq.mpr c21
            have c21b1 : (a1 != 92) = false := bne_eq_false_iff_eq.mpr c21
            clear c21
            have H' := Aside0.mk H
            clear H
            go_wp2
            go_meet
            case rel => exact ⟨_, (true), (by first | rfl | (simp; done) | (simp [*]; done) | (simp [bne, beq_nil_E]; done)), H', ⟨by have := HJ2.out; first | omega | exact Nat.le_refl _⟩, ⟨by repeat (first | (with_reducible first | exact HB.out | apply below_alloc | apply pw_below_drewN | apply below_drew1) | exact HB.out)⟩⟩
           ·
            rw [if_neg c21] at H
            have c21b0 : (a1 == 92) = false := beq_eq_false_iff_ne.mpr c21
            have c21b1 : (a1 != 92) = true := bne_iff_ne.mpr c21
            have H' := Aside0.mk H
            clear H
            go_wp2
            go_meet
            case rel => exact ⟨_, ((a1 == 42)), (by first | rfl | (simp; done) | (simp [*]; done) | (simp [bne, beq_nil_E]; done)), H', ⟨by have := HJ2.out; first | omega | exact Nat.le_refl _⟩, ⟨by repeat (first | (with_reducible first | exact HB.out | apply below_alloc | apply pw_below_drewN | apply below_drew1) | exact HB.out)⟩⟩
       ·
        rw [if_neg c14] at H
        have c14b0 : decide (65 ≤ a1) = false := decide_eq_false c14
        clear c14
        by_cases c22 : a1 ≥ 48
        ·
         rw [if_pos c22] at H
         have c22b0 : decide (48 ≤ a1) = true := decide_eq_true c22
         clear c22
         by_cases c23 : a1 ≤ 57
         ·
          rw [if_pos c23] at H
          have c23b0 : decide (a1 ≤ 57) = true := decide_eq_true c23
          clear c23
          have H' := Aside0.mk H
          clear H
          go_wp2
          go_meet
          case rel => exact ⟨_, (true), (by first | rfl | (simp; done) | (simp [*]; done) | (simp [bne, beq_nil_E]; done)), H', ⟨by have := HJ2.out; first | omega | exact Nat.le_refl _⟩, ⟨by repeat (first | (with_reducible first | exact HB.out | apply below_alloc | apply pw_below_drewN | apply below_drew1) | exact HB.out)⟩⟩
         ·
          rw [if_neg c23] at H
          have c23b0 : decide (a1 ≤ 57) = false := decide_eq_false c23
          clear c23
          by_cases c24 : a1 ≥ 128
          ·
           rw [if_pos c24] at H
           have c24b0 : decide (128 ≤ a1) = true := decide_eq_true c24
           clear c24
           have H' := Aside0.mk H
           clear H
           go_wp2
           go_meet
           case rel => exact ⟨_, (true), (by first | rfl | (simp; done) | (simp [*]; done) | (simp [bne, beq_nil_E]; done)), H', ⟨by have := HJ2.out; first | omega | exact Nat.le_refl _⟩, ⟨by repeat (first | (with_reducible first | exact HB.out | apply below_alloc | apply pw_below_drewN | apply below_drew1) | exact HB.out)⟩⟩
          ·
           rw [if_neg c24] at H
           have c24b0 : decide (128 ≤ a1) = false := decide_eq_false c24
           clear c24
           by_cases c25 : a1 = 92
           ·
            rw [if_pos c25] at H
            have c25b0 : (a1 == 92) = true := beq_iff_eq.mpr c25
            have c25b1 : (a1 != 92) = false := bne_eq_false_iff_eq.mpr c25
            clear c25
            have H' := Aside0.mk H
            clear H
            go_wp2
            go_meet
            case rel => exact ⟨_, (true), (by first | rfl | (simp; done) | (simp [*]; done) | (simp [bne, beq_nil_E]; done)), H', ⟨by have := HJ2.out; first | omega | exact Nat.le_refl _⟩, ⟨by repeat (first | (with_reducible first | exact HB.out | apply below_alloc | apply pw_below_drewN | apply below_drew1) | exact HB.out)⟩⟩
           ·
            rw [if_neg c25] at H
            have c25b0 : (a1 == 92) = false := beq_eq_false_iff_ne.mpr c25
            have c25b1 : (a1 != 92) = true := bne_iff_ne.mpr c25
            have H' := Aside0.mk H
            clear H
            go_wp2
            go_meet
            case rel => exact ⟨_, ((a1 == 42)), (by first | rfl | (simp; done) | (simp [*]; done) | (simp [bne, beq_nil_E]; done)), H', ⟨by have := HJ2.out; first | omega | exact Nat.le_refl _⟩, ⟨by repeat (first | (with_reducible first | exact HB.out | apply below_alloc | apply pw_below_drewN | apply below_drew1) | exact HB.out)⟩⟩
        ·
         rw [if_neg c22] at H
         have c22b0 : decide (48 ≤ a1) = false := decide_eq_false c22
         clear c22
         by_cases c26 : a1 ≥ 128
         ·
          rw [if_pos c26] at H
          have c26b0 : decide (128 ≤ a1) = true := decide_eq_true c26
          clear c26
          have H' := Aside0.mk H
          clear H
          go_wp2
          go_meet
          case rel => exact ⟨_, (true), (by first | rfl | (simp; done) | (simp [*]; done) | (simp [bne, beq_nil_E]; done)), H', ⟨by have := HJ2.out; first | omega | exact Nat.le_refl _⟩, ⟨by repeat (first | (with_reducible first | exact HB.out | apply below_alloc | apply pw_below_drewN | apply below_drew1) | exact HB.out)⟩⟩
         ·
          rw [if_neg c26] at H
          have c26b0 : decide (128 ≤ a1) = false := decide_eq_false c26
          clear c26
          by_cases c27 : a1 = 92
          ·
           rw [if_pos c27] at H
           have c27b0 : (a1 == 92) = true := beq_iff_eq.mpr c27
           have c27b1 : (a1 != 92) = false := bne_eq_false_iff_eq.mpr c27
           clear c27
           have H' := Aside0.mk H
           clear H
           go_wp2
           go_meet
           case rel => exact ⟨_, (true), (by first | rfl | (simp; done) | (simp [*]; done) | (simp [bne, beq_nil_E]; done)), H', ⟨by have := HJ2.out; first | omega | exact Nat.le_refl _⟩, ⟨by repeat (first | (with_reducible first | exact HB.out | apply below_alloc | apply pw_below_drewN | apply below_drew1) | exact HB.out)⟩⟩
          ·
           rw [if_neg c27] at H
           have c27b0 : (a1 == 92) = false := beq_eq_false_iff_ne.mpr c27
           have c27b1 : (a1 != 92) = true := bne_iff_ne.mpr c27
           have H' := Aside0.mk H
           clear H
           go_wp2
           go_meet
           case rel => exact ⟨_, ((a1 == 42)), (by first | rfl | (simp; done) | (simp [*]; done) | (simp [bne, beq_nil_E]; done)), H', ⟨by have := HJ2.out; first | omega | exact Nat.le_refl _⟩, ⟨by repeat (first | (with_reducible first | exact HB.out | apply below_alloc | apply pw_below_drewN | apply below_drew1) | exact HB.out)⟩⟩
     ·
      rw [if_neg c12] at H
      have c12b0 : decide (97 ≤ a1) = false := decide_eq_false c12
      clear c12
      (first | rw [c12b0] | (simp only [i64_w, i32_w]; rw [c12b0]) | skip)
      by_cases c28 : a1 ≥ 65
      ·
       rw [if_pos c28] at H
       have c28b0 : decide (65 ≤ a1) = true := decide_eq_true c28
       clear c28
       by_cases c29 : a1 ≤ 90
       ·
        rw [if_pos c29] at H
        have c29b0 : decide (a1 ≤ 90) = true := decide_eq_true c29
        clear c29
        have H' := Aside0.mk H
        clear H
        go_wp2
        go_meet
        case rel => exact ⟨_, (true), (by first | rfl | (simp; done) | (simp [*]; done) | (simp [bne, beq_nil_E]; done)), H', ⟨by have := HJ2.out; first | omega | exact Nat.le_refl _⟩, ⟨by repeat (first | (with_reducible first | exact HB.out | apply below_alloc | apply pw_below_drewN | apply below_drew1) | exact HB.out)⟩⟩
       ·
        rw [if_neg c29] at H
        have c29b0 : decide (a1 ≤ 90) = false := decide_eq_false c29
        clear c29
        by_cases c30 : a1 ≥ 48
        ·
         rw [if_pos c30] at H
         have c30b0 : decide (48 ≤ a1) = true := decide_eq_true c30
         clear c30
         by_cases c31 : a1 ≤ 57
         ·
          rw [if_pos c31] at H
          have c31b0 : decide (a1 ≤ 57) = true := decide_eq_true c31
          clear c31
          have H' := Aside0.mk H
          clear H
          go_wp2
          go_meet
          case rel => exact ⟨_, (true), (by first | rfl | (simp; done) | (simp [*]; done) | (simp [bne, beq_nil_E]; done)), H', ⟨by have := HJ2.out; first | omega | exact Nat.le_refl _⟩, ⟨by repeat (first | (with_reducible first | exact HB.out | apply below_alloc | apply pw_below_drewN | apply below_drew1) | exact HB.out)⟩⟩
         ·
          rw [if_neg c31] at H
          have c31b0 : decide (a1 ≤ 57) = false := decide_eq_false c31
          clear c31
          by_cases c32 : a1 ≥ 128
          ·
           rw [if_pos c32] at H
           have c32b0 : decide (128 ≤ a1) = true := decide_eq_true c32
           clear c32
           have H' := Aside0.mk H
           clear H
           go_wp2
           go_meet
           case rel => exact ⟨_, (true), (by first | rfl | (simp; done) | (simp [*]; done) | (simp [bne, beq_nil_E]; done)), H', ⟨by have := HJ2.out; first | omega | exact Nat.le_refl _⟩, ⟨by repeat (first | (with_reducible first | exact HB.out | apply below_alloc | apply pw_below_drewN | apply below_drew1) | exact HB.out)⟩⟩
          ·
           rw [if_neg c32] at H
           have c32b0 : decide (128 ≤ a1) = false := decide_eq_false c32
           clear c32
           by_cases c33 : a1 = 92
           ·
            rw [if_pos c33] at H
            have c33b0 : (a1 == 92) = true := beq_iff_eq.mpr c33
            have c33b1 : (a1 != 92) = false := bne_eq_false_iff_eq.mpr c33
            clear c33
            have H' := Aside0.mk H
            clear H
            go_wp2
            go_meet
            case rel => exact ⟨_, (true), (by first | rfl | (simp; done) | (simp [*]; done) | (simp [bne, beq_nil_E]; done)), H', ⟨by have := HJ2.out; first | omega | exact Nat.le_refl _⟩, ⟨by repeat (first | (with_reducible first | exact HB.out | apply below_alloc | apply pw_below_drewN | apply below_drew1) | exact HB.out)⟩⟩
           ·
            rw [if_neg c33] at H
            have c33b0 : (a1 == 92) = false := beq_eq_false_iff_ne.mpr c33
            have c33b1 : (a1 != 92) = true := bne_iff_ne.mpr c33
            have H' := Aside0.mk H
            clear H
            go_wp2
            go_meet
            case rel => exact ⟨_, ((a1 == 42)), (by first | rfl | (simp; done) | (simp [*]; done) | (simp [bne, beq_nil_E]; done)), H', ⟨by have := HJ2.out; first | omega | exact Nat.le_refl _⟩, ⟨by repeat (first | (with_reducible first | exact HB.out | apply below_alloc | apply pw_below_drewN | apply below_drew1) | exact HB.out)⟩⟩
        ·
         rw [if_neg c30] at H
         have c30b0 : decide (48 ≤ a1) = false := decide_eq_false c30
         clear c30
         by_cases c34 : a1 ≥ 128
         ·
          rw [if_pos c34] at H
          have c34b0 : decide (128 ≤ a1) = true := decide_eq_true c34
          clear c34
          have H' := Aside0.mk H
          clear H
          go_wp2
          go_meet
          case rel => exact ⟨_, (true), (by first | rfl | (simp; done) | (simp [*]; done) | (simp [bne, beq_nil_E]; done)), H', ⟨by have := HJ2.out; first | omega | exact Nat.le_refl _⟩, ⟨by repeat (first | (with_reducible first | exact HB.out | apply below_alloc | apply pw_below_drewN | apply below_drew1) | exact HB.out)⟩⟩
         ·
          rw [if_neg c34] at H
          have c34b0 : decide (128 ≤ a1) = false := decide_eq_false c34
          clear c34
          by_cases c35 : a1 = 92
          ·
           rw [if_pos c35] at H
           have c35b0 : (a1 == 92) = true := beq_iff_eq.mpr c35
           have c35b1 : (a1 != 92) = false := bne_eq_false_iff_eq.mpr c35
           clear c35
           have H' := Aside0.mk H
           clear H
           go_wp2
           go_meet
           case rel => exact ⟨_, (true), (by first | rfl | (simp; done) | (simp [*]; done) | (simp [bne, beq_nil_E]; done)), H', ⟨by have := HJ2.out; first | omega | exact Nat.le_refl _⟩, ⟨by repeat (first | (with_reducible first | exact HB.out | apply below_alloc | apply pw_below_drewN | apply below_drew1) | exact HB.out)⟩⟩
          ·
           rw [if_neg c35] at H
           have c35b0 : (a1 == 92) = false := beq_eq_false_iff_ne.mpr c35
           have c35b1 : (a1 != 92) = true := bne_iff_ne.mpr c35
           have H' := Aside0.mk H
           clear H
           go_wp2
           go_meet
           case rel => exact ⟨_, ((a1 == 42)), (by first | rfl | (simp; done) | (simp [*]; done) | (simp [bne, beq_nil_E]; done)), H', ⟨by have := HJ2.out; first | omega | exact Nat.le_refl _⟩, ⟨by repeat (first | (with_reducible first | exact HB.out | apply below_alloc | apply pw_below_drewN | apply below_drew1) | exact HB.out)⟩⟩
      ·
       rw [if_neg c28] at H
       have c28b0 : decide (65 ≤ a1) = false := decide_eq_false c28
       clear c28
       by_cases c36 : a1 ≥ 48
       ·
        rw [if_pos c36] at H
        have c36b0 : decide (48 ≤ a1) = true := decide_eq_true c36
        clear c36
        by_cases c37 : a1 ≤ 57
        ·
         rw [if_pos c37] at H
         have c37b0 : decide (a1 ≤ 57) = true := decide_eq_true c37
         clear c37
         have H' := Aside0.mk H
         clear H
         go_wp2
         go_meet
         case rel => exact ⟨_, (true), (by first | rfl | (simp; done) | (simp [*]; done) | (simp [bne, beq_nil_E]; done)), H', ⟨by have := HJ2.out; first | omega | exact Nat.le_refl _⟩, ⟨by repeat (first | (with_reducible first | exact HB.out | apply below_alloc | apply pw_below_drewN | apply below_drew1) | exact HB.out)⟩⟩
        ·
         rw [if_neg c37] at H
         have c37b0 : decide (a1 ≤ 57) = false := decide_eq_false c37
         clear c37
         by_cases c38 : a1 ≥ 128
         ·
          rw [if_pos c38] at H
          have c38b0 : decide (128 ≤ a1) = true := decide_eq_true c38
          clear c38
          have H' := Aside0.mk H
          clear H
          go_wp2
          go_meet
          case rel => exact ⟨_, (true), (by first | rfl | (simp; done) | (simp [*]; done) | (simp [bne, beq_nil_E]; done)), H', ⟨by have := HJ2.out; first | omega | exact Nat.le_refl _⟩, ⟨by repeat (first | (with_reducible first | exact HB.out | apply below_alloc | apply pw_below_drewN | apply below_drew1) | exact HB.out)⟩⟩
         ·
          rw [if_neg c38] at H
          have c38b0 : decide (128 ≤ a1) = false := decide_eq_false c38
          clear c38
          by_cases c39 : a1 = 92
          ·
           rw [if_pos c39] at H
           have c39b0 : (a1 == 92) = true := beq_iff_eq.mpr c39
           have c39b1 : (a1 != 92) = false := bne_eq_false_iff_eq.mpr c39
           clear c39
           have H' := Aside0.mk H
           clear H
           go_wp2
           go_meet
           case rel => exact ⟨_, (true), (by first | rfl | (simp; done) | (simp [*]; done) | (simp [bne, beq_nil_E]; done)), H', ⟨by have := HJ2.out; first | omega | exact Nat.le_refl _⟩, ⟨by repeat (first | (with_reducible first | exact HB.out | apply below_alloc | apply pw_below_drewN | apply below_drew1) | exact HB.out)⟩⟩
          ·
           rw [if_neg c39] at H
           have c39b0 : (a1 == 92) = false := beq_eq_false_iff_ne.mpr c39
           have c39b1 : (a1 != 92) = true := bne_iff_ne.mpr c39
           have H' := Aside0.mk H
           clear H
           go_wp2
           go_meet
           case rel => exact ⟨_, ((a1 == 42)), (by first | rfl | (simp; done) | (simp [*]; done) | (simp [bne, beq_nil_E]; done)), H', ⟨by have := HJ2.out; first | omega | exact Nat.le_refl _⟩, ⟨by repeat (first | (with_reducible first | exact HB.out | apply below_alloc | apply pw_below_drewN | apply below_drew1) | exact HB.out)⟩⟩
       ·
        rw [if_neg c36] at H
        have c36b0 : decide (48 ≤ a1) = false := decide_eq_false c36
        clear c36
        by_cases c40 : a1 ≥ 128
        ·
         rw [if_pos c40] at H
         have c40b0 : decide (128 ≤ a1) = true := decide_eq_true c40
         clear c40
         have H' := Aside0.mk H
         clear H
         go_wp2
         go_meet
         case rel => exact ⟨_, (true), (by first | rfl | (simp; done) | (simp [*]; done) | (simp [bne, beq_nil_E]; done)), H', ⟨by have := HJ2.out; first | omega | exact Nat.le_refl _⟩, ⟨by repeat (first | (with_reducible first | exact HB.out | apply below_alloc | apply pw_below_drewN | apply below_drew1) | exact HB.out)⟩⟩
        ·
         rw [if_neg c40] at H
         have c40b0 : decide (128 ≤ a1) = false := decide_eq_false c40
         clear c40
         by_cases c41 : a1 = 92
         ·
          rw [if_pos c41] at H
          have c41b0 : (a1 == 92) = true := beq_iff_eq.mpr c41
          have c41b1 : (a1 != 92) = false := bne_eq_false_iff_eq.mpr c41
          clear c41
          have H' := Aside0.mk H
          clear H
          go_wp2
          go_meet
          case rel => exact ⟨_, (true), (by first | rfl | (simp; done) | (simp [*]; done) | (simp [bne, beq_nil_E]; done)), H', ⟨by have := HJ2.out; first | omega | exact Nat.le_refl _⟩, ⟨by repeat (first | (with_reducible first | exact HB.out | apply below_alloc | apply pw_below_drewN | apply below_drew1) | exact HB.out)⟩⟩
         ·
          rw [if_neg c41] at H
          have c41b0 : (a1 == 92) = false := beq_eq_false_iff_ne.mpr c41
          have c41b1 : (a1 != 92) = true := bne_iff_ne.mpr c41
          have H' := Aside0.mk H
          clear H
          go_wp2
          go_meet
          case rel => exact ⟨_, ((a1 == 42)), (by first | rfl | (simp; done) | (simp [*]; done) | (simp [bne, beq_nil_E]; done)), H', ⟨by have := HJ2.out; first | omega | exact Nat.le_refl _⟩, ⟨by repeat (first | (with_reducible first | exact HB.out | apply below_alloc | apply pw_below_drewN | apply below_drew1) | exact HB.out)⟩⟩
    case rest =>
     clear HC11
     try clear c1
     try clear c2
     try clear p2
     try clear c3
     try clear c4
     try clear c5
     try clear c8
     try clear c12
     try clear c12b0
     try clear c13
     try clear c13b0
     try clear c14
     try clear c14b0
     try clear c15
     try clear c15b0
     try clear c16
     try clear c16b0
     try clear c17
     try clear c17b0
     try clear c18
     try clear c18b0
     try clear c19
     try clear c19b0
     try clear c19b1
     try clear c20
     try clear c20b0
     try clear c21
     try clear c21b0
     try clear c21b1
     try clear c22
     try clear c22b0
     try clear c23
     try clear c23b0
     try clear c24
     try clear c24b0
     try clear c25
     try clear c25b0
     try clear c25b1
     try clear c26
     try clear c26b0
     try clear c27
     try clear c27b0
     try clear c27b1
     try clear c28
     try clear c28b0
     try clear c29
     try clear c29b0
     try clear c30
     try clear c30b0
     try clear c31
     try clear c31b0
     try clear c32
     try clear c32b0
     try clear c33
     try clear c33b0
     try clear c33b1
     try clear c34
     try clear c34b0
     try clear c35
     try clear c35b0
     try clear c35b1
     try clear c36
     try clear c36b0
     try clear c37
     try clear c37b0
     try clear c38
     try clear c38b0
     try clear c39
     try clear c39b0
     try clear c39b1
     try clear c40
     try clear c40b0
     try clear c41
     try clear c41b0
     try clear c41b1
     try clear p2
     obtain ⟨kq, x5_10, rfl, HA, HJ10, HB⟩ := hcut
     cases kq with
     | zero => exact absurd HA.out (by simp [emendationlaw11_KindPlain.j1])
     | succ kj10 =>
      have H := HA.out
      clear HA
      simp only [emendationlaw11_KindPlain.j1] at H
      have HC42 := Aside0.mk H
      clear H
      go_upto_region 4 with (fail)
      go_cut [60] (fun v60 wc => ∃ (kq : Nat) (x60_41 : Bool), v60 = .bool x60_41 ∧ Aside0 (emendationlaw11_KindPlain.j2 kq a0 x60_41 = some r) ∧ Aside0 (kq ≤ kj10) ∧ Aside0 (Below w.heap.size w wc))
      case first =>
       have H := HC42.out
       clear HC42
       by_cases c43 : x5_10 = true
       ·
        subst c43
        have H1 : ((some (([a1] : List Int) : List Int)).bind fun y161 => (if (strOfNums y161).size + a0.size ≤ 9223372036854775807 then ((kind_Of.f kj10 ((strOfNums y161) ++ a0)).bind fun t164 => (emendationlaw11_KindPlain.j2 kj10 a0 (t164 != 8))) else (none))) = some r := by rw [if_pos rfl] at H; exact H
        clear H
        have H := H1
        clear H1
        obtain ⟨y161, hy161⟩ : ∃ y_ : List Int, y_ = (([a1] : List Int)) := ⟨_, rfl⟩
        replace H : (if (strOfNums y161).size + a0.size ≤ 9223372036854775807 then ((kind_Of.f kj10 ((strOfNums y161) ++ a0)).bind fun t164 => (emendationlaw11_KindPlain.j2 kj10 a0 (t164 != 8))) else (none)) = some r := by first | (rw [hy161]; with_reducible exact H) | (have H2_ := (Option.bind_some _ _).symm.trans H; rw [hy161]; with_reducible exact H2_) | (have H2_ := (Option.bind_some _ _).symm.trans H; with_reducible exact H2_) | with_reducible exact H | (rw [hy161]; exact H) | exact H
        have Ny161 := Aside0.mk hy161
        clear hy161
        by_cases c44 : (strOfNums y161).size + a0.size ≤ 9223372036854775807
        ·
         rw [if_pos c44] at H
         have c44b0 := eq_true c44
         have c44b1 : decide ((strOfNums y161).size + a0.size ≤ 9223372036854775807) = true := decide_eq_true c44
         try have c44b2 : (9223372036854775807 < (strOfNums y161).size + a0.size) = False := eq_false (Nat.not_lt.2 c44)
         replace H := Option.bind_eq_some_iff.mp H
         obtain ⟨t164, A450, H⟩ := H
         replace H : (emendationlaw11_KindPlain.j2 kj10 a0 (t164 != 8)) = some r := H
         have A45 := Aside0.mk A450
         clear A450
         have H' := Aside0.mk H
         clear H
         go_wp2_with (first | ((with_reducible refine gate_dst (N := 54) rfl ?_); (try (refine gate_guard (by rfl) ?_; dsimp only)); refine Kd.R_lit (Kd.int .u8) _ 5 ?hg (N := 54) ?hd (xs := ([a1] : List Int)) (inner := [.int .u8 a1]) (ok := fun _ => True) (okp := fun _ => True) ?hr ?hp (fun _ hk => hk) trivial (Below.refl _ _) (Nat.le_refl _) (by simp) ?_; (case hd => rfl); (case hg => rfl); (case hr => first | (go_simp; done) | (go_simp; rfl)); (case hp => exact (Reps.one (show Kd.M (Kd.int .u8) _ _ _ a1 [.int .u8 a1] from rfl) (Reps.none _ _))); intro v162 w46 ho47 hb hg_ hnew_; clear hg_ hnew_; (first | rw [← Ny161.out] at ho47 | (simp only [Int.reduceToNat] at ho47; rw [← Ny161.out] at ho47)); have n0_ := Aside0.mk (Kd.R_lower ho47 (below_size (by repeat (first | (with_reducible first | exact HB.out | apply below_alloc | apply pw_below_drewN | apply below_drew1) | exact HB.out)))); have n1_ := Aside0.mk (below_step (by repeat (first | (with_reducible first | exact HB.out | apply below_alloc | apply pw_below_drewN | apply below_drew1) | exact HB.out)) hb); clear HB; have HO163 := n0_; have HB := n1_; clear n0_ n1_; clear hb ho47; have hcv48 := own_string (P := Tryd.prog) Tryd.underlying24 Tryd.underlying5 Tryd.underlying9 (Kd.own_of_R HO163.out); have tkA45 : True := trivial) | (go_at_call 9; clear tkA45; (with_reducible refine (kind_Of.calls kj10 ((strOfNums y161) ++ a0) t164 _ ?side1 A45.out).mono ?_); (case side1 => first | exact HT.out | exact Tabs.at HT.out (by repeat (first | (with_reducible first | exact HB.out | apply below_alloc | apply pw_below_drewN | apply below_drew1) | exact HB.out))); rintro e w49 ⟨rfl, hb⟩; have n0_ := Aside0.mk (Kd.R_below (by (with_reducible repeat (first | apply Kd.R_alloc | apply Kd.R_drewN | apply Kd.R_drew)); exact HO163.out) hb); have n1_ := Aside0.mk (below_step (by repeat (first | (with_reducible first | exact HB.out | apply below_alloc | apply pw_below_drewN | apply below_drew1) | exact HB.out)) hb); clear HO163; clear HB; have HO163 := n0_; have HB := n1_; clear n0_ n1_; (try clear hb); (try clear hb2); (try clear hk); (try clear hi)))
         go_meet
         case rel => exact ⟨_, ((t164 != 8)), (by first | rfl | (simp; done) | (simp [*]; done) | (simp [bne, beq_nil_E]; done)), H', ⟨by have := HJ2.out; have := HJ10.out; first | omega | exact Nat.le_refl _⟩, ⟨by repeat (first | (with_reducible first | exact HB.out | apply below_alloc | apply pw_below_drewN | apply below_drew1) | exact HB.out)⟩⟩
        ·
         rw [if_neg c44] at H
         exact absurd H (by simp)
       ·
        replace c43 := Bool.eq_false_iff.mpr c43
        subst c43
        have H1 : (emendationlaw11_KindPlain.j2 kj10 a0 false) = some r := by rw [if_neg (show ¬ (false = true) by decide)] at H; exact H
        clear H
        have H := H1
        clear H1
        have H' := Aside0.mk H
        clear H
        go_wp2
        go_meet
        case rel => exact ⟨_, (false), (by first | rfl | (simp; done) | (simp [*]; done) | (simp [bne, beq_nil_E]; done)), H', ⟨by have := HJ2.out; have := HJ10.out; first | omega | exact Nat.le_refl _⟩, ⟨by repeat (first | (with_reducible first | exact HB.out | apply below_alloc | apply pw_below_drewN | apply below_drew1) | exact HB.out)⟩⟩
      case rest =>
       clear HC42
       try clear c1
       try clear c2
       try clear p2
       try clear c3
       try clear c4
       try clear hcv4
       try clear c5
       try clear c8
       try clear c12
       try clear c12b0
       try clear c13
       try clear c13b0
       try clear c14
       try clear c14b0
       try clear c15
       try clear c15b0
       try clear c16
       try clear c16b0
       try clear c17
       try clear c17b0
       try clear c18
       try clear c18b0
       try clear c19
       try clear c19b0
       try clear c19b1
       try clear c20
       try clear c20b0
       try clear c21
       try clear c21b0
       try clear c21b1
       try clear c22
       try clear c22b0
       try clear c23
       try clear c23b0
       try clear c24
       try clear c24b0
       try clear c25
       try clear c25b0
       try clear c25b1
       try clear c26
       try clear c26b0
       try clear c27
       try clear c27b0
       try clear c27b1
       try clear c28
       try clear c28b0
       try clear c29
       try clear c29b0
       try clear c30
       try clear c30b0
       try clear c31
       try clear c31b0
       try clear c32
       try clear c32b0
       try clear c33
       try clear c33b0
       try clear c33b1
       try clear c34
       try clear c34b0
       try clear c35
       try clear c35b0
       try clear c35b1
       try clear c36
       try clear c36b0
       try clear c37
       try clear c37b0
       try clear c38
       try clear c38b0
       try clear c39
       try clear c39b0
       try clear c39b1
       try clear c40
       try clear c40b0
       try clear c41
       try clear c41b0
       try clear c41b1
       try clear c43
       try clear c44
       try clear c44b0
       try clear c44b1
       try clear c44b2
       try clear hcv48
       try clear p2
       obtain ⟨kq, x60_41, rfl, HA, HJ41, HB⟩ := hcut
       cases kq with
       | zero => exact absurd HA.out (by simp [emendationlaw11_KindPlain.j2])
       | succ kj41 =>
        have H := HA.out
        clear HA
        simp only [emendationlaw11_KindPlain.j2] at H
        by_cases c50 : x60_41 = true
        ·
         subst c50
         have H1 : (some false) = some r := by rw [if_pos rfl] at H; exact H
         clear H
         have H := H1
         clear H1
         obtain rfl := Option.some.inj H
         go_wp2
         go_ret
         exact ⟨by first | rfl | (simp [errW_none, errW_some] <;> rfl) | (simp [*, errW_none, errW_some] <;> rfl), by repeat (first | (with_reducible first | exact HB.out | apply below_alloc | apply pw_below_drewN | apply below_drew1) | exact HB.out)⟩
        ·
         replace c50 := Bool.eq_false_iff.mpr c50
         subst c50
         have H1 : (emendationlaw11_KindPlain.l0 kj41 a0 true (a0.size : Int) 0) = some r := by rw [if_neg (show ¬ (false = true) by decide)] at H; exact H
         clear H
         have H := H1
         clear H1
         have H' := Aside0.mk H
         clear H
         go_wp2
         go_loopg [6, 63] kj41 (fun kq v6 v63 w' => ∃ (x6_4 : Bool) (x63_4 : Int), v6 = .bool x6_4 ∧ v63 = .int .i64 x63_4 ∧ Aside0 (emendationlaw11_KindPlain.l0 kq a0 x6_4 (a0.size : Int) x63_4 = some r) ∧ Aside0 (kq ≤ kj41) ∧ Aside0 (Below w.heap.size w w'))
         case atStart => exact ⟨(true), (0), (by first | rfl | (simp; done) | (simp [*]; done) | (simp [bne, beq_nil_E]; done)), (by first | rfl | (simp; done) | (simp [*]; done) | (simp [bne, beq_nil_E]; done)), H', ⟨Nat.le_refl _⟩, ⟨by repeat (first | (with_reducible first | exact HB.out | apply below_alloc | apply pw_below_drewN | apply below_drew1) | exact HB.out)⟩⟩
         case round =>
          clear H'
          try clear c1
          try clear c2
          try clear p2
          try clear c3
          try clear c4
          try clear hcv4
          try clear c5
          try clear c8
          try clear c12
          try clear c12b0
          try clear c13
          try clear c13b0
          try clear c14
          try clear c14b0
          try clear c15
          try clear c15b0
          try clear c16
          try clear c16b0
          try clear c17
          try clear c17b0
          try clear c18
          try clear c18b0
          try clear c19
          try clear c19b0
          try clear c19b1
          try clear c20
          try clear c20b0
          try clear c21
          try clear c21b0
          try clear c21b1
          try clear c22
          try clear c22b0
          try clear c23
          try clear c23b0
          try clear c24
          try clear c24b0
          try clear c25
          try clear c25b0
          try clear c25b1
          try clear c26
          try clear c26b0
          try clear c27
          try clear c27b0
          try clear c27b1
          try clear c28
          try clear c28b0
          try clear c29
          try clear c29b0
          try clear c30
          try clear c30b0
          try clear c31
          try clear c31b0
          try clear c32
          try clear c32b0
          try clear c33
          try clear c33b0
          try clear c33b1
          try clear c34
          try clear c34b0
          try clear c35
          try clear c35b0
          try clear c35b1
          try clear c36
          try clear c36b0
          try clear c37
          try clear c37b0
          try clear c38
          try clear c38b0
          try clear c39
          try clear c39b0
          try clear c39b1
          try clear c40
          try clear c40b0
          try clear c41
          try clear c41b0
          try clear c41b1
          try clear c43
          try clear c44
          try clear c44b0
          try clear c44b1
          try clear c44b2
          try clear hcv48
          try clear c50
          try clear p2
          obtain ⟨x6_4, x63_4, rfl, rfl, HA, HK4, HB⟩ := hrel
          cases gk with
          | zero => exact absurd HA.out (by simp [emendationlaw11_KindPlain.l0])
          | succ k4 =>
           have H := HA.out
           clear HA
           simp only [emendationlaw11_KindPlain.l0] at H
           by_cases c51 : x63_4 < (a0.size : Int)
           ·
            rw [if_pos c51] at H
            have c51b0 : decide (x63_4 < (a0.size : Int)) = true := decide_eq_true c51
            clear c51
            by_cases c52 : x6_4 = true
            ·
             subst c52
             have H1 : (if 0 ≤ x63_4 then (if x63_4 < (a0.size : Int) then (if (bt a0 x63_4) = 32 then (emendationlaw11_KindPlain.l0 k4 a0 true (a0.size : Int) (wrap64 (x63_4 + 1))) else (emendationlaw11_KindPlain.l0 k4 a0 ((bt a0 x63_4) == 9) (a0.size : Int) (wrap64 (x63_4 + 1)))) else (none)) else (none)) = some r := by rw [if_pos rfl] at H; exact H
             clear H
             have H := H1
             clear H1
             by_cases c53 : 0 ≤ x63_4
             ·
              rw [if_pos c53] at H
              have c53b0 : decide (0 ≤ x63_4) = true := decide_eq_true c53
              clear c53
              by_cases c54 : x63_4 < (a0.size : Int)
              ·
               rw [if_pos c54] at H
               have c54b0 : decide (x63_4 < (a0.size : Int)) = true := decide_eq_true c54
               clear c54
               by_cases c56 : (bt a0 x63_4) = 32
               ·
                rw [if_pos c56] at H
                have c56b0 : ((bt a0 x63_4) == 32) = true := beq_iff_eq.mpr c56
                have c56b1 : ((bt a0 x63_4) != 32) = false := bne_eq_false_iff_eq.mpr c56
                clear c56
                have H' := Aside0.mk H
                clear H
                have p55 : 0 ≤ (x63_4 : Int) := of_decide_eq_true (by first | (with_reducible assumption) | assumption)
                have q55 : x63_4 < (a0.size : Int) := of_decide_eq_true (by first | (with_reducible assumption) | assumption)
                have hx55 := bt_at a0 x63_4
                replace p55 := eq_true p55
                replace q55 := eq_true q55
                go_wp2
                go_roundg k4
                case measure => have := HJ2.out; have := HJ10.out; have := HJ41.out; have := HK4.out; omega
                case rel => exact ⟨(true), (wrap64 (x63_4 + 1)), (by first | rfl | (simp; done) | (simp [*]; done) | (simp [bne, beq_nil_E]; done)), (by first | rfl | (simp; done) | (simp [*]; done) | (simp [bne, beq_nil_E]; done)), H', ⟨by have := HJ2.out; have := HJ10.out; have := HJ41.out; have := HK4.out; omega⟩, ⟨by repeat (first | (with_reducible first | exact HB.out | apply below_alloc | apply pw_below_drewN | apply below_drew1) | exact HB.out)⟩⟩
               ·
                rw [if_neg c56] at H
                have c56b0 : ((bt a0 x63_4) == 32) = false := beq_eq_false_iff_ne.mpr c56
                have c56b1 : ((bt a0 x63_4) != 32) = true := bne_iff_ne.mpr c56
                have H' := Aside0.mk H
                clear H
                have p55 : 0 ≤ (x63_4 : Int) := of_decide_eq_true (by first | (with_reducible assumption) | assumption)
                have q55 : x63_4 < (a0.size : Int) := of_decide_eq_true (by first | (with_reducible assumption) | assumption)
                have hx55 := bt_at a0 x63_4
                replace p55 := eq_true p55
                replace q55 := eq_true q55
                have p57 : 0 ≤ (x63_4 : Int) := of_decide_eq_true (by first | (with_reducible assumption) | assumption)
                have q57 : x63_4 < (a0.size : Int) := of_decide_eq_true (by first | (with_reducible assumption) | assumption)
                have hx57 := bt_at a0 x63_4
                replace p57 := eq_true p57
                replace q57 := eq_true q57
                go_wp2
                go_roundg k4
                case measure => have := HJ2.out; have := HJ10.out; have := HJ41.out; have := HK4.out; omega
                case rel => exact ⟨(((bt a0 x63_4) == 9)), (wrap64 (x63_4 + 1)), (by first | rfl | (simp; done) | (simp [*]; done) | (simp [bne, beq_nil_E]; done)), (by first | rfl | (simp; done) | (simp [*]; done) | (simp [bne, beq_nil_E]; done)), H', ⟨by have := HJ2.out; have := HJ10.out; have := HJ41.out; have := HK4.out; omega⟩, ⟨by repeat (first | (with_reducible first | exact HB.out | apply below_alloc | apply pw_below_drewN | apply below_drew1) | exact HB.out)⟩⟩
              ·
               rw [if_neg c54] at H
               exact absurd H (by simp)
             ·
              rw [if_neg c53] at H
              exact absurd H (by simp)
            ·
             replace c52 := Bool.eq_false_iff.mpr c52
             subst c52
             have H1 : (emendationlaw11_KindPlain.l0 k4 a0 false (a0.size : Int) (wrap64 (x63_4 + 1))) = some r := by rw [if_neg (show ¬ (false = true) by decide)] at H; exact H
             clear H
             have H := H1
             clear H1
             have H' := Aside0.mk H
             clear H
             go_wp2
             go_roundg k4
             case measure => have := HJ2.out; have := HJ10.out; have := HJ41.out; have := HK4.out; omega
             case rel => exact ⟨(false), (wrap64 (x63_4 + 1)), (by first | rfl | (simp; done) | (simp [*]; done) | (simp [bne, beq_nil_E]; done)), (by first | rfl | (simp; done) | (simp [*]; done) | (simp [bne, beq_nil_E]; done)), H', ⟨by have := HJ2.out; have := HJ10.out; have := HJ41.out; have := HK4.out; omega⟩, ⟨by repeat (first | (with_reducible first | exact HB.out | apply below_alloc | apply pw_below_drewN | apply below_drew1) | exact HB.out)⟩⟩
           ·
            rw [if_neg c51] at H
            have c51b0 : decide (x63_4 < (a0.size : Int)) = false := decide_eq_false c51
            clear c51
            by_cases c58 : 1 + a0.size ≤ 9223372036854775807
            ·
             rw [if_pos c58] at H
             have c58b0 := eq_true c58
             have c58b1 : decide (1 + a0.size ≤ 9223372036854775807) = true := decide_eq_true c58
             try have c58b2 : (9223372036854775807 < 1 + a0.size) = False := eq_false (Nat.not_lt.2 c58)
             replace H := Option.bind_eq_some_iff.mp H
             obtain ⟨t165, A590, H⟩ := H
             replace H : (if ((t165 == 1) == x6_4) = true then (if x6_4 = true then (some true) else (some (t165 == 8))) else (some false)) = some r := H
             have A59 := Aside0.mk A590
             clear A590
             by_cases c60 : ((t165 == 1) == x6_4) = true
             ·
              rw [if_pos c60] at H
              have c60b0 : ((t165 == 1) == x6_4) = true := c60
              (try (have c60b1 : decide ((t165 == 1) = x6_4) = true := by simpa using c60))
              (try (have c60b2 : ((t165 == 1) == x6_4) = true := by simpa using c60))
              clear c60
              by_cases c61 : x6_4 = true
              ·
               subst c61
               have H1 : (some true) = some r := by rw [if_pos rfl] at H; exact H
               clear H
               have H := H1
               clear H1
               obtain rfl := Option.some.inj H
               go_wp2_with (first | ((with_reducible refine gate_callee (f := 9) rfl ?_); refine goesL_ (some 82) rfl rfl Tryd.func9 (by kernel_rfl) rfl #[.string ((⟨#[32]⟩ : ByteArray) ++ a0)] rfl (by (try simp only [List.map_toArray, List.map_cons, List.map_nil]); first | done | rfl | (simp only [List.length_drop, List.length_take]; rfl)) ?_; (with_reducible refine (kind_Of.calls k4 ((⟨#[32]⟩ : ByteArray) ++ a0) t165 _ ?side1 A59.out).mono ?_); (case side1 => first | exact HT.out | exact Tabs.at HT.out (by repeat (first | (with_reducible first | exact HB.out | apply below_alloc | apply pw_below_drewN | apply below_drew1) | exact HB.out))); rintro e w62 ⟨rfl, hb⟩; refine ⟨_, rfl, ?_⟩; have n0_ := Aside0.mk (below_step (by repeat (first | (with_reducible first | exact HB.out | apply below_alloc | apply pw_below_drewN | apply below_drew1) | exact HB.out)) hb); clear HB; have HB := n0_; clear n0_; (try clear hb); (try clear hb2); (try clear hk); (try clear hi)))
               go_ret
               exact ⟨by first | rfl | (simp [errW_none, errW_some] <;> rfl) | (simp [*, errW_none, errW_some] <;> rfl), by repeat (first | (with_reducible first | exact HB.out | apply below_alloc | apply pw_below_drewN | apply below_drew1) | exact HB.out)⟩
              ·
               replace c61 := Bool.eq_false_iff.mpr c61
               subst c61
               have H1 : (some (t165 == 8)) = some r := by rw [if_neg (show ¬ (false = true) by decide)] at H; exact H
               clear H
               have H := H1
               clear H1
               obtain rfl := Option.some.inj H
               go_wp2_with (first | ((with_reducible refine gate_callee (f := 9) rfl ?_); refine goesL_ (some 82) rfl rfl Tryd.func9 (by kernel_rfl) rfl #[.string ((⟨#[32]⟩ : ByteArray) ++ a0)] rfl (by (try simp only [List.map_toArray, List.map_cons, List.map_nil]); first | done | rfl | (simp only [List.length_drop, List.length_take]; rfl)) ?_; (with_reducible refine (kind_Of.calls k4 ((⟨#[32]⟩ : ByteArray) ++ a0) t165 _ ?side1 A59.out).mono ?_); (case side1 => first | exact HT.out | exact Tabs.at HT.out (by repeat (first | (with_reducible first | exact HB.out | apply below_alloc | apply pw_below_drewN | apply below_drew1) | exact HB.out))); rintro e w63 ⟨rfl, hb⟩; refine ⟨_, rfl, ?_⟩; have n0_ := Aside0.mk (below_step (by repeat (first | (with_reducible first | exact HB.out | apply below_alloc | apply pw_below_drewN | apply below_drew1) | exact HB.out)) hb); clear HB; have HB := n0_; clear n0_; (try clear hb); (try clear hb2); (try clear hk); (try clear hi)))
               go_ret
               exact ⟨by first | rfl | (simp [errW_none, errW_some] <;> rfl) | (simp [*, errW_none, errW_some] <;> rfl), by repeat (first | (with_reducible first | exact HB.out | apply below_alloc | apply pw_below_drewN | apply below_drew1) | exact HB.out)⟩
             ·
              rw [if_neg c60] at H
              have c60b0 : ((t165 == 1) == x6_4) = false := by simpa using c60
              (try (have c60b1 : decide ((t165 == 1) = x6_4) = false := by simpa using c60))
              (try (have c60b2 : ((t165 == 1) == x6_4) = false := by simpa using c60))
              (try (have c60b3 : ¬ ((t165 == 1) = x6_4) := by simpa using c60))
              clear c60
              obtain rfl := Option.some.inj H
              go_wp2_with (first | ((with_reducible refine gate_callee (f := 9) rfl ?_); refine goesL_ (some 82) rfl rfl Tryd.func9 (by kernel_rfl) rfl #[.string ((⟨#[32]⟩ : ByteArray) ++ a0)] rfl (by (try simp only [List.map_toArray, List.map_cons, List.map_nil]); first | done | rfl | (simp only [List.length_drop, List.length_take]; rfl)) ?_; (with_reducible refine (kind_Of.calls k4 ((⟨#[32]⟩ : ByteArray) ++ a0) t165 _ ?side1 A59.out).mono ?_); (case side1 => first | exact HT.out | exact Tabs.at HT.out (by repeat (first | (with_reducible first | exact HB.out | apply below_alloc | apply pw_below_drewN | apply below_drew1) | exact HB.out))); rintro e w64 ⟨rfl, hb⟩; refine ⟨_, rfl, ?_⟩; have n0_ := Aside0.mk (below_step (by repeat (first | (with_reducible first | exact HB.out | apply below_alloc | apply pw_below_drewN | apply below_drew1) | exact HB.out)) hb); clear HB; have HB := n0_; clear n0_; (try clear hb); (try clear hb2); (try clear hk); (try clear hi)))
              go_ret
              exact ⟨by first | rfl | (simp [errW_none, errW_some] <;> rfl) | (simp [*, errW_none, errW_some] <;> rfl), by repeat (first | (with_reducible first | exact HB.out | apply below_alloc | apply pw_below_drewN | apply below_drew1) | exact HB.out)⟩
            ·
             rw [if_neg c58] at H
             exact absurd H (by simp)

end Go.Proofs.YticaofendehebaaDoor.X
