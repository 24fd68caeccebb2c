-- Written by a program of this session (wip/mkprint.py over the kit's print) out of the translation; Lean checks it.
import Derived.Test.YtmfffpfenhgjbaaDoorX0
import Derived.Test.YtmfffpfenhgjbaaDoorX5
import Derived.Test.YtmfffpfenhgjbaaDoorGivenStrs
import Derived.Test.YtmfffpfenhgjbaaDoorGivenUtf
namespace Go.Proofs.YtmfffpfenhgjbaaDoor.X
open Go.RowKit Go.Proofs.YtmfffpfenhgjbaaDoor.G Go.Proofs.YtmfffpfenhgjbaaDoorW.PrintWords Go.Proofs.YtmfffpfenhgjbaaDoorW.PrintLast Go.Proofs.YtmfffpfenhgjbaaDoorW.PrintMore
attribute [local go_sem] max2_int min2_int max_two min_two max_three min_three max_four min_four   -- for this text's walks alone
set_option linter.unusedVariables false
set_option linter.unusedSimpArgs false

/-! ### emendationref08_dest: function 70 -/
mutual
def emendationref08_dest.j0 : Nat → ByteArray → Int → Bool → Option (ByteArray × Int)
 | 0, _, _, _ => none
 | k + 1, x0, x1, x16 => if x16 = true then (some ((⟨#[]⟩ : ByteArray), (-1))) else (emendationref08_dest.l0 k x0 x1 (wrap64 (x1 + 1)))
def emendationref08_dest.l0 : Nat → ByteArray → Int → Int → Option (ByteArray × Int)
 | 0, _, _, _ => none
 | k + 1, x0, x1, x6 => if x6 < (x0.size : Int) then (if 0 ≤ x6 then (if x6 ≤ (wrap64 (x6 + 1)) then (if (wrap64 (x6 + 1)) ≤ (x0.size : Int) then ((emendationref07_Dest.f k (x0.extract (x6 : Int).toNat ((wrap64 (x6 + 1)) : Int).toNat)).bind fun t145 => (if t145 = true then (emendationref08_dest.l0 k x0 x1 (wrap64 (x6 + 1))) else (if x6 = (wrap64 (x1 + 1)) then (some ((⟨#[]⟩ : ByteArray), (-1))) else (if x6 ≥ (x0.size : Int) then (some ((⟨#[]⟩ : ByteArray), (-1))) else (if (bt x0 x6) = 41 then (if 0 ≤ (wrap64 (x1 + 1)) then (if (wrap64 (x1 + 1)) ≤ x6 then (if x6 ≤ (x0.size : Int) then (some (x0.extract ((wrap64 (x1 + 1)) : Int).toNat (x6 : Int).toNat, wrap64 (x6 + 1))) else (none)) else (none)) else (none)) else (some ((⟨#[]⟩ : ByteArray), (-1)))))))) else (none)) else (none)) else (none)) else (if x6 = (wrap64 (x1 + 1)) then (some ((⟨#[]⟩ : ByteArray), (-1))) else (if x6 ≥ (x0.size : Int) then (some ((⟨#[]⟩ : ByteArray), (-1))) else (if 0 ≤ x6 then (none) else (none))))
end
def emendationref08_dest.f (k : Nat) (a0 : ByteArray) (a1 : Int) : Option (ByteArray × Int) := if a1 ≥ (a0.size : Int) then (emendationref08_dest.j0 k a0 a1 true) else (if 0 ≤ a1 then (if a1 < (a0.size : Int) then (emendationref08_dest.j0 k a0 a1 ((bt a0 a1) != 40)) else (none)) else (none))
set_option maxHeartbeats 8000000 in
set_option maxRecDepth 100000 in
theorem emendationref08_dest.calls (k : Nat) (a0 : ByteArray) (a1 : Int) (r1 : ByteArray) (r2 : Int) (w : World) (h : emendationref08_dest.f k a0 a1 = some (r1, r2)) :
  Calls Tryd.prog 70 #[.string a0, .int .i64 a1] w fun e w' => e = .returned (.tuple #[.string r1, .int .i64 r2]) ∧ Drawn0 w w' := by
 have H : (if a1 ≥ (a0.size : Int) then (emendationref08_dest.j0 k a0 a1 true) else (if 0 ≤ a1 then (if a1 < (a0.size : Int) then (emendationref08_dest.j0 k a0 a1 ((bt a0 a1) != 40)) else (none)) else (none))) = some (r1, r2) := h
 clear h
 have HC3 := Aside0.mk H
 clear H
 go_enter Tryd.func70, Tryd.ntmps70
 go_upto_region 1 with (fail)
 go_cut [16] (fun v16 wc => ∃ (kq : Nat) (x16_2 : Bool), v16 = .bool x16_2 ∧ Aside0 (emendationref08_dest.j0 kq a0 a1 x16_2 = some (r1, r2)) ∧ Aside0 (kq ≤ k) ∧ Drawn0 w wc)
 case first =>
  have H := HC3.out
  clear HC3
  by_cases c4 : a1 ≥ (a0.size : Int)
  ·
   rw [if_pos c4] at H
   have c4b0 : decide ((a0.size : Int) ≤ a1) = true := decide_eq_true c4
   clear c4
   (first | rw [c4b0] | (simp only [i64_w, i32_w]; rw [c4b0]) | skip)
   have H' := Aside0.mk H
   clear H
   go_wp2
   go_meet
   case rel => exact ⟨_, (true), (by first | rfl | (simp; done) | (simp [*]; done) | (simp [bne, beq_nil_E]; done)), H', ⟨by first | omega | exact Nat.le_refl _⟩, by repeat (first | exact Drawn0.refl _ | apply Drawn0.step)⟩
  ·
   rw [if_neg c4] at H
   have c4b0 : decide ((a0.size : Int) ≤ a1) = false := decide_eq_false c4
   clear c4
   (first | rw [c4b0] | (simp only [i64_w, i32_w]; rw [c4b0]) | skip)
   by_cases c5 : 0 ≤ a1
   ·
    rw [if_pos c5] at H
    have c5b0 : decide (0 ≤ a1) = true := decide_eq_true c5
    clear c5
    by_cases c6 : a1 < (a0.size : Int)
    ·
     rw [if_pos c6] at H
     have c6b0 : decide (a1 < (a0.size : Int)) = true := decide_eq_true c6
     clear c6
     have H' := Aside0.mk H
     clear H
     have p7 : 0 ≤ (a1 : Int) := of_decide_eq_true (by first | (with_reducible assumption) | assumption)
     have q7 : a1 < (a0.size : Int) := of_decide_eq_true (by first | (with_reducible assumption) | assumption)
     have hx7 := bt_at a0 a1
     replace p7 := eq_true p7
     replace q7 := eq_true q7
     go_wp2
     go_meet
     case rel => exact ⟨_, (((bt a0 a1) != 40)), (by first | rfl | (simp; done) | (simp [*]; done) | (simp [bne, beq_nil_E]; done)), H', ⟨by first | omega | exact Nat.le_refl _⟩, by repeat (first | exact Drawn0.refl _ | apply Drawn0.step)⟩
    ·
     rw [if_neg c6] at H
     exact absurd H (by simp)
   ·
    rw [if_neg c5] at H
    exact absurd H (by simp)
 case rest =>
  clear HC3
  try clear p2
  try clear c4
  try clear c4b0
  try clear c5
  try clear c5b0
  try clear c6
  try clear c6b0
  try clear c7
  try clear p7
  try clear q7
  try clear hx7
  try clear p7
  try clear q7
  obtain ⟨kq, x16_2, rfl, HA, HJ2, ⟨mc2, rfl⟩⟩ := hcut
  cases kq with
  | zero => exact absurd HA.out (by simp [emendationref08_dest.j0])
  | succ kj2 =>
   have H := HA.out
   clear HA
   simp only [emendationref08_dest.j0] at H
   by_cases c8 : x16_2 = true
   ·
    subst c8
    have H1 : (some ((⟨#[]⟩ : ByteArray), (-1))) = some (r1, r2) := by rw [if_pos rfl] at H; exact H
    clear H
    have H := H1
    clear H1
    simp only [Option.some.injEq, Prod.mk.injEq] at H
    obtain ⟨rfl, rfl⟩ := H
    go_wp2
    go_ret2
    exact ⟨by first | rfl | (simp; done) | (simp [*]; done) | (simp [bne, beq_nil_E]; done), by repeat (first | exact Drawn0.refl _ | apply Drawn0.step)⟩
   ·
    replace c8 := Bool.eq_false_iff.mpr c8
    subst c8
    have H1 : (emendationref08_dest.l0 kj2 a0 a1 (wrap64 (a1 + 1))) = some (r1, r2) := by rw [if_neg (show ¬ (false = true) by decide)] at H; exact H
    clear H
    have H := H1
    clear H1
    have H' := Aside0.mk H
    clear H
    go_wp2
    go_loopg [6] kj2 (fun kq v6 w' => ∃ (x6_2 : Int), v6 = .int .i64 x6_2 ∧ Aside0 (emendationref08_dest.l0 kq a0 a1 x6_2 = some (r1, r2)) ∧ Aside0 (kq ≤ kj2) ∧ Drawn0 w w')
    case atStart => exact ⟨(wrap64 (a1 + 1)), (by first | rfl | (simp; done) | (simp [*]; done) | (simp [bne, beq_nil_E]; done)), H', ⟨Nat.le_refl _⟩, by repeat (first | exact Drawn0.refl _ | apply Drawn0.step)⟩
    case round =>
     clear H'
     try clear c2
     try clear p2
     try clear c4
     try clear c4b0
     try clear c5
     try clear c5b0
     try clear c6
     try clear c6b0
     try clear p6
     try clear c7
     try clear p7
     try clear q7
     try clear hx7
     try clear c8
     try clear p2
     try clear p7
     try clear q7
     obtain ⟨x6_2, rfl, HA, HK2, ⟨m2, rfl⟩⟩ := hrel
     cases gk with
     | zero => exact absurd HA.out (by simp [emendationref08_dest.l0])
     | succ k2 =>
      have H := HA.out
      clear HA
      simp only [emendationref08_dest.l0] at H
      by_cases c9 : x6_2 < (a0.size : Int)
      ·
       rw [if_pos c9] at H
       have c9b0 : decide (x6_2 < (a0.size : Int)) = true := decide_eq_true c9
       clear c9
       by_cases c10 : 0 ≤ x6_2
       ·
        rw [if_pos c10] at H
        have c10b0 := eq_true c10
        have c10b1 : decide (0 ≤ x6_2) = true := decide_eq_true c10
        clear c10
        by_cases c11 : x6_2 ≤ (wrap64 (x6_2 + 1))
        ·
         rw [if_pos c11] at H
         have c11b0 := eq_true c11
         have c11b1 : decide (x6_2 ≤ (wrap64 (x6_2 + 1))) = true := decide_eq_true c11
         by_cases c12 : (wrap64 (x6_2 + 1)) ≤ (a0.size : Int)
         ·
          rw [if_pos c12] at H
          have c12b0 := eq_true c12
          have c12b1 : decide ((wrap64 (x6_2 + 1)) ≤ (a0.size : Int)) = true := decide_eq_true c12
          replace H := Option.bind_eq_some_iff.mp H
          obtain ⟨t145, A130, H⟩ := H
          replace H : (if t145 = true then (emendationref08_dest.l0 k2 a0 a1 (wrap64 (x6_2 + 1))) else (if x6_2 = (wrap64 (a1 + 1)) then (some ((⟨#[]⟩ : ByteArray), (-1))) else (if x6_2 ≥ (a0.size : Int) then (some ((⟨#[]⟩ : ByteArray), (-1))) else (if (bt a0 x6_2) = 41 then (if 0 ≤ (wrap64 (a1 + 1)) then (if (wrap64 (a1 + 1)) ≤ x6_2 then (if x6_2 ≤ (a0.size : Int) then (some (a0.extract ((wrap64 (a1 + 1)) : Int).toNat (x6_2 : Int).toNat, wrap64 (x6_2 + 1))) else (none)) else (none)) else (none)) else (some ((⟨#[]⟩ : ByteArray), (-1))))))) = some (r1, r2) := H
          have A13 := Aside0.mk A130
          clear A130
          by_cases c14 : t145 = true
          ·
           subst c14
           have H1 : (emendationref08_dest.l0 k2 a0 a1 (wrap64 (x6_2 + 1))) = some (r1, r2) := by rw [if_pos rfl] at H; exact H
           clear H
           have H := H1
           clear H1
           have H' := Aside0.mk H
           clear H
           have tkA13 : True := trivial
           go_wp2_with (first | (go_at_call 28; clear tkA13; (with_reducible refine (emendationref07_Dest.calls k2 (a0.extract (x6_2 : Int).toNat ((wrap64 (x6_2 + 1)) : Int).toNat) true _ A13.out).mono ?_); rintro e w' ⟨rfl, ⟨nd, rfl⟩⟩))
           go_roundg k2
           case measure => have := HJ2.out; have := HK2.out; omega
           case rel => exact ⟨(wrap64 (x6_2 + 1)), (by first | rfl | (simp; done) | (simp [*]; done) | (simp [bne, beq_nil_E]; done)), H', ⟨by have := HJ2.out; have := HK2.out; omega⟩, by repeat (first | exact Drawn0.refl _ | apply Drawn0.step)⟩
          ·
           replace c14 := Bool.eq_false_iff.mpr c14
           subst c14
           have H1 : (if x6_2 = (wrap64 (a1 + 1)) then (some ((⟨#[]⟩ : ByteArray), (-1))) else (if x6_2 ≥ (a0.size : Int) then (some ((⟨#[]⟩ : ByteArray), (-1))) else (if (bt a0 x6_2) = 41 then (if 0 ≤ (wrap64 (a1 + 1)) then (if (wrap64 (a1 + 1)) ≤ x6_2 then (if x6_2 ≤ (a0.size : Int) then (some (a0.extract ((wrap64 (a1 + 1)) : Int).toNat (x6_2 : Int).toNat, wrap64 (x6_2 + 1))) else (none)) else (none)) else (none)) else (some ((⟨#[]⟩ : ByteArray), (-1)))))) = some (r1, r2) := by rw [if_neg (show ¬ (false = true) by decide)] at H; exact H
           clear H
           have H := H1
           clear H1
           by_cases c15 : x6_2 = (wrap64 (a1 + 1))
           ·
            rw [if_pos c15] at H
            have c15b0 : (x6_2 == (wrap64 (a1 + 1))) = true := beq_iff_eq.mpr c15
            have c15b1 : (x6_2 != (wrap64 (a1 + 1))) = false := bne_eq_false_iff_eq.mpr c15
            clear c15
            simp only [Option.some.injEq, Prod.mk.injEq] at H
            obtain ⟨rfl, rfl⟩ := H
            have tkA13 : True := trivial
            go_wp2_with (first | (go_at_call 28; clear tkA13; (with_reducible refine (emendationref07_Dest.calls k2 (a0.extract (x6_2 : Int).toNat ((wrap64 (x6_2 + 1)) : Int).toNat) false _ A13.out).mono ?_); rintro e w' ⟨rfl, ⟨nd, rfl⟩⟩))
            go_ret2
            exact ⟨by first | rfl | (simp; done) | (simp [*]; done) | (simp [bne, beq_nil_E]; done), by repeat (first | exact Drawn0.refl _ | apply Drawn0.step)⟩
           ·
            rw [if_neg c15] at H
            have c15b0 : (x6_2 == (wrap64 (a1 + 1))) = false := beq_eq_false_iff_ne.mpr c15
            have c15b1 : (x6_2 != (wrap64 (a1 + 1))) = true := bne_iff_ne.mpr c15
            by_cases c16 : x6_2 ≥ (a0.size : Int)
            ·
             rw [if_pos c16] at H
             have c16b0 : decide ((a0.size : Int) ≤ x6_2) = true := decide_eq_true c16
             clear c16
             simp only [Option.some.injEq, Prod.mk.injEq] at H
             obtain ⟨rfl, rfl⟩ := H
             have tkA13 : True := trivial
             go_wp2_with (first | (go_at_call 28; clear tkA13; (with_reducible refine (emendationref07_Dest.calls k2 (a0.extract (x6_2 : Int).toNat ((wrap64 (x6_2 + 1)) : Int).toNat) false _ A13.out).mono ?_); rintro e w' ⟨rfl, ⟨nd, rfl⟩⟩))
             go_ret2
             exact ⟨by first | rfl | (simp; done) | (simp [*]; done) | (simp [bne, beq_nil_E]; done), by repeat (first | exact Drawn0.refl _ | apply Drawn0.step)⟩
            ·
             rw [if_neg c16] at H
             have c16b0 : decide ((a0.size : Int) ≤ x6_2) = false := decide_eq_false c16
             clear c16
             by_cases c18 : (bt a0 x6_2) = 41
             ·
              rw [if_pos c18] at H
              have c18b0 : ((bt a0 x6_2) == 41) = true := beq_iff_eq.mpr c18
              have c18b1 : ((bt a0 x6_2) != 41) = false := bne_eq_false_iff_eq.mpr c18
              clear c18
              obtain ⟨ji19, hji19⟩ : ∃ j_ : Int, (wrap64 (a1 + 1)) = j_ := ⟨_, rfl⟩
              replace H : (if 0 ≤ (ji19) then (if (ji19) ≤ x6_2 then (if x6_2 ≤ (a0.size : Int) then (some (a0.extract ((ji19) : Int).toNat (x6_2 : Int).toNat, wrap64 (x6_2 + 1))) else (none)) else (none)) else (none)) = some (r1, r2) := by first | (rw [hji19] at H; exact H) | (simp only [hji19] at H ⊢; exact H)
              (try rw [hji19] at c15b0)
              (try rw [hji19] at c15b1)
              (try rw [hji19] at A13)
              have hji19w : (IntKind.i64.wrap (a1 + 1)) = ji19 := (i64_w _).trans hji19
              by_cases c20 : 0 ≤ (ji19)
              ·
               rw [if_pos c20] at H
               have c20b0 := eq_true c20
               have c20b1 : decide (0 ≤ (ji19)) = true := decide_eq_true c20
               clear c20
               by_cases c21 : (ji19) ≤ x6_2
               ·
                rw [if_pos c21] at H
                have c21b0 := eq_true c21
                have c21b1 : decide ((ji19) ≤ x6_2) = true := decide_eq_true c21
                clear c21
                by_cases c22 : x6_2 ≤ (a0.size : Int)
                ·
                 rw [if_pos c22] at H
                 have c22b0 := eq_true c22
                 have c22b1 : decide (x6_2 ≤ (a0.size : Int)) = true := decide_eq_true c22
                 clear c22
                 simp only [Option.some.injEq, Prod.mk.injEq] at H
                 obtain ⟨rfl, rfl⟩ := H
                 have tkA13 : True := trivial
                 go_wp2_with (first | (go_at_call 28; clear tkA13; (with_reducible refine (emendationref07_Dest.calls k2 (a0.extract (x6_2 : Int).toNat ((wrap64 (x6_2 + 1)) : Int).toNat) false _ A13.out).mono ?_); rintro e w' ⟨rfl, ⟨nd, rfl⟩⟩; have p17 : 0 ≤ (x6_2 : Int) := of_decide_eq_true (by first | (with_reducible assumption) | assumption); have q17 : x6_2 < (a0.size : Int) := of_decide_eq_true (by first | (with_reducible assumption) | assumption); have hx17 := bt_at a0 x6_2; replace p17 := eq_true p17; replace q17 := eq_true q17))
                 go_ret2
                 exact ⟨by first | rfl | (simp; done) | (simp only [← hji19] <;> (first | rfl | simp)) | (simp [*]; done), by repeat (first | exact Drawn0.refl _ | apply Drawn0.step)⟩
                ·
                 rw [if_neg c22] at H
                 exact absurd H (by simp)
               ·
                rw [if_neg c21] at H
                exact absurd H (by simp)
              ·
               rw [if_neg c20] at H
               exact absurd H (by simp)
             ·
              rw [if_neg c18] at H
              have c18b0 : ((bt a0 x6_2) == 41) = false := beq_eq_false_iff_ne.mpr c18
              have c18b1 : ((bt a0 x6_2) != 41) = true := bne_iff_ne.mpr c18
              simp only [Option.some.injEq, Prod.mk.injEq] at H
              obtain ⟨rfl, rfl⟩ := H
              have tkA13 : True := trivial
              go_wp2_with (first | (go_at_call 28; clear tkA13; (with_reducible refine (emendationref07_Dest.calls k2 (a0.extract (x6_2 : Int).toNat ((wrap64 (x6_2 + 1)) : Int).toNat) false _ A13.out).mono ?_); rintro e w' ⟨rfl, ⟨nd, rfl⟩⟩; have p17 : 0 ≤ (x6_2 : Int) := of_decide_eq_true (by first | (with_reducible assumption) | assumption); have q17 : x6_2 < (a0.size : Int) := of_decide_eq_true (by first | (with_reducible assumption) | assumption); have hx17 := bt_at a0 x6_2; replace p17 := eq_true p17; replace q17 := eq_true q17))
              go_ret2
              exact ⟨by first | rfl | (simp; done) | (simp [*]; done) | (simp [bne, beq_nil_E]; done), by repeat (first | exact Drawn0.refl _ | apply Drawn0.step)⟩
         ·
          rw [if_neg c12] at H
          exact absurd H (by simp)
        ·
         rw [if_neg c11] at H
         exact absurd H (by simp)
       ·
        rw [if_neg c10] at H
        exact absurd H (by simp)
      ·
       rw [if_neg c9] at H
       have c9b0 : decide (x6_2 < (a0.size : Int)) = false := decide_eq_false c9
       clear c9
       by_cases c23 : x6_2 = (wrap64 (a1 + 1))
       ·
        rw [if_pos c23] at H
        have c23b0 : (x6_2 == (wrap64 (a1 + 1))) = true := beq_iff_eq.mpr c23
        have c23b1 : (x6_2 != (wrap64 (a1 + 1))) = false := bne_eq_false_iff_eq.mpr c23
        clear c23
        simp only [Option.some.injEq, Prod.mk.injEq] at H
        obtain ⟨rfl, rfl⟩ := H
        go_wp2
        go_ret2
        exact ⟨by first | rfl | (simp; done) | (simp [*]; done) | (simp [bne, beq_nil_E]; done), by repeat (first | exact Drawn0.refl _ | apply Drawn0.step)⟩
       ·
        rw [if_neg c23] at H
        have c23b0 : (x6_2 == (wrap64 (a1 + 1))) = false := beq_eq_false_iff_ne.mpr c23
        have c23b1 : (x6_2 != (wrap64 (a1 + 1))) = true := bne_iff_ne.mpr c23
        by_cases c24 : x6_2 ≥ (a0.size : Int)
        ·
         rw [if_pos c24] at H
         have c24b0 : decide ((a0.size : Int) ≤ x6_2) = true := decide_eq_true c24
         clear c24
         simp only [Option.some.injEq, Prod.mk.injEq] at H
         obtain ⟨rfl, rfl⟩ := H
         go_wp2
         go_ret2
         exact ⟨by first | rfl | (simp; done) | (simp [*]; done) | (simp [bne, beq_nil_E]; done), by repeat (first | exact Drawn0.refl _ | apply Drawn0.step)⟩
        ·
         rw [if_neg c24] at H
         have c24b0 : decide ((a0.size : Int) ≤ x6_2) = false := decide_eq_false c24
         clear c24
         by_cases c25 : 0 ≤ x6_2
         ·
          rw [if_pos c25] at H
          exact absurd H (by simp)
         ·
          rw [if_neg c25] at H
          exact absurd H (by simp)

-- GIVEN: function 57 (strings_IndexByte)

/-! ### spanout_Escape: function 34 -/
def spanout_Escape.l0 : Nat → List Int → List Int → Int → Int → Option (ByteArray)
 | 0, _, _, _, _ => none
 | k + 1, x3, x10, x11, x12 => if x12 < x11 then (if 0 ≤ x12 then (if x12 < (x10.length : Int) then ((strings_IndexByte.f (⟨#[92, 42, 91, 93, 35, 62, 45, 96]⟩ : ByteArray) (rd x10 x12)).bind fun t153 => (if t153 ≥ 0 then (if x3.length < 140737488355328 then ((some (x3 ++ [92] : List Int)).bind fun y154 => (if y154.length < 140737488355328 then (spanout_Escape.l0 k (y154 ++ [rd x10 x12]) x10 x11 (wrap64 (x12 + 1))) else (none))) else (none)) else (if x3.length < 140737488355328 then (spanout_Escape.l0 k (x3 ++ [rd x10 x12]) x10 x11 (wrap64 (x12 + 1))) else (none)))) else (none)) else (none)) else (some (strOfNums x3))
def spanout_Escape.f (k : Nat) (a0 : ByteArray) : Option (ByteArray) := if 0 ≤ (a0.size : Int) then (if ((a0.size : Int) : Int).toNat ≤ 281474976710656 then (if a0.size ≤ 9223372036854775807 then ((some (bytesOf a0 : List Int)).bind fun y149 => (spanout_Escape.l0 k (([] : List Int)) y149 (y149.length : Int) 0)) else (none)) else (none)) else (none)
set_option maxHeartbeats 8000000 in
set_option maxRecDepth 100000 in
theorem spanout_Escape.calls (k : Nat) (a0 : ByteArray) (r : ByteArray) (w : World) (h : spanout_Escape.f k a0 = some r) :
  Calls Tryd.prog 34 #[.string a0] w fun e w' => e = .returned (.string r) ∧ Below w.heap.size w w' := by
 have HB := Aside0.mk (Below.refl w.heap.size w)
 have H : (if 0 ≤ (a0.size : Int) then (if ((a0.size : Int) : Int).toNat ≤ 281474976710656 then (if a0.size ≤ 9223372036854775807 then ((some (bytesOf a0 : List Int)).bind fun y149 => (spanout_Escape.l0 k (([] : List Int)) y149 (y149.length : Int) 0)) else (none)) else (none)) else (none)) = some r := h
 clear h
 by_cases c2 : 0 ≤ (a0.size : Int)
 ·
  rw [if_pos c2] at H
  have c2b0 := eq_true c2
  have c2b1 : decide (0 ≤ (a0.size : Int)) = true := decide_eq_true c2
  clear c2
  by_cases c3 : ((a0.size : Int) : Int).toNat ≤ 281474976710656
  ·
   rw [if_pos c3] at H
   have c3b0 := eq_true c3
   have c3b1 : decide (((a0.size : Int) : Int).toNat ≤ 281474976710656) = true := decide_eq_true c3
   clear c3
   obtain ⟨y146, hy146⟩ : ∃ y_ : List Int, y_ = (([] : List Int)) := ⟨_, rfl⟩
   replace H : (if a0.size ≤ 9223372036854775807 then ((some (bytesOf a0 : List Int)).bind fun y149 => (spanout_Escape.l0 k y146 y149 (y149.length : Int) 0)) else (none)) = some r := by first | (rw [hy146]; with_reducible exact H) | (have H2_ := (Option.bind_some _ _).symm.trans H; rw [hy146]; with_reducible exact H2_) | (have H2_ := (Option.bind_some _ _).symm.trans H; with_reducible exact H2_) | with_reducible exact H | (rw [hy146]; exact H) | exact H
   have Ny146 := Aside0.mk hy146
   clear hy146
   by_cases c4 : a0.size ≤ 9223372036854775807
   ·
    rw [if_pos c4] at H
    have c4b0 := eq_true c4
    have c4b1 : decide (a0.size ≤ 9223372036854775807) = true := decide_eq_true c4
    try have c4b2 : (9223372036854775807 < a0.size) = False := eq_false (Nat.not_lt.2 c4)
    clear c4
    obtain ⟨y149, hy149⟩ : ∃ y_ : List Int, y_ = (bytesOf a0) := ⟨_, rfl⟩
    replace H : (spanout_Escape.l0 k y146 y149 (y149.length : Int) 0) = some r := by first | (rw [hy149]; with_reducible exact H) | (have H2_ := (Option.bind_some _ _).symm.trans H; rw [hy149]; with_reducible exact H2_) | (have H2_ := (Option.bind_some _ _).symm.trans H; with_reducible exact H2_) | with_reducible exact H | (rw [hy149]; exact H) | exact H
    have Ny149 := Aside0.mk hy149
    clear hy149
    have H' := Aside0.mk H
    clear H
    go_enter Tryd.func34, Tryd.ntmps34
    go_wp2_with (first | ((with_reducible refine gate_dst (N := 8) rfl ?_); refine Kd.R_make0 (Kd.int .u8) _ 5 rfl (N := 8) rfl 54 _ _ rfl (a0.size : Int) rfl rfl Tryd.underlying54 (.int .u8 0) 1 info5 rfl (by decide) (by omega) 0 (ok := fun _ => True) (okp := fun _ => True) rfl (fun _ hk => hk) trivial (of_decide_eq_true (by first | (with_reducible assumption) | assumption)) (Nat.le_trans (Nat.mul_le_mul_right _ (of_decide_eq_true (by first | (with_reducible assumption) | assumption) : (a0.size : Int).toNat ≤ 281474976710656)) (by omega)) (Below.refl _ _) (Nat.le_refl _) ?_; intro v147 w5 ho6 hb hg_ hnew_; clear hg_ hnew_; (first | rw [← Ny146.out] at ho6 | (simp only [Int.reduceToNat] at ho6; rw [← Ny146.out] at ho6)); have n0_ := Aside0.mk (Kd.R_lower ho6 (below_size (by repeat (with_reducible first | exact HB.out | apply below_alloc | apply pw_below_drewN | apply below_drew1)))); have n1_ := Aside0.mk (below_step (by repeat (with_reducible first | exact HB.out | apply below_alloc | apply pw_below_drewN | apply below_drew1)) hb); clear HB; have HO148 := n0_; have HB := n1_; clear n0_ n1_; clear hb ho6) | ((with_reducible refine gate_dst (N := 10) rfl ?_); refine Kd.V_conv _ 5 rfl (N := 10) rfl 9 54 _ rfl a0 rfl Tryd.underlying9 Tryd.underlying54 Tryd.underlying5 (of_decide_eq_true (by first | (with_reducible assumption) | assumption | rfl)) (Below.refl _ _) (Nat.le_refl _) ?_; intro v150 w7 ho8 hb hg_ hnew_; clear hg_ hnew_; (first | rw [← Ny149.out] at ho8 | (simp only [Int.reduceToNat] at ho8; rw [← Ny149.out] at ho8)); have n0_ := Aside0.mk (Kd.R_below (by (with_reducible repeat (first | apply Kd.R_alloc | apply Kd.R_drewN | apply Kd.R_drew)); exact HO148.out) hb); have n1_ := Aside0.mk (Kd.V_lower (Kd.V_mono (ok' := fun k_ => some k_ ≠ (v147 : Value).ownBlock) ho8 (fun k_ hk_ => (Kd.fresh' (Kd.R_lt (by (with_reducible repeat (first | apply Kd.R_alloc | apply Kd.R_drewN | apply Kd.R_drew)); exact HO148.out)) k_ hk_))) (below_size (by repeat (with_reducible first | exact HB.out | apply below_alloc | apply pw_below_drewN | apply below_drew1)))); have n2_ := Aside0.mk (below_step (by repeat (with_reducible first | exact HB.out | apply below_alloc | apply pw_below_drewN | apply below_drew1)) hb); clear HO148; clear HB; have HO148 := n0_; have HO151 := n1_; have HB := n2_; clear n0_ n1_ n2_; clear hb ho8; obtain ⟨Ao9, co9, eo9⟩ := Kd.V_slice HO151.out; subst eo9))
    go_loopg [3, 12] k (fun kq v3 v12 w' => ∃ (x3_1 : List Int) (x12_1 : Int), v12 = .int .i64 x12_1 ∧ Aside0 (spanout_Escape.l0 kq x3_1 y149 (y149.length : Int) x12_1 = some r) ∧ Aside0 (kq ≤ k) ∧ Aside0 (Kd.R (Kd.int .u8) 5 w' w.heap.size (fun _ => True) v3 x3_1) ∧ Aside0 (Kd.V (Kd.int .u8) 5 w' w.heap.size (fun k_ => some k_ ≠ (v3 : Value).ownBlock) (.slice Ao9 y149.length co9) y149) ∧ Aside0 (Below w.heap.size w w'))
    case atStart => exact ⟨(y146), (0), (by first | rfl | (simp; done) | (simp [*]; done) | (simp [bne, beq_nil_E]; done)), H', ⟨Nat.le_refl _⟩, ⟨by (with_reducible repeat (first | apply Kd.R_alloc | apply Kd.R_drewN | apply Kd.R_drew)); exact HO148.out⟩, ⟨by (with_reducible repeat (first | apply Kd.V_alloc | apply Kd.V_drewN | apply Kd.V_drew)); exact HO151.out⟩, ⟨by repeat (with_reducible first | exact HB.out | apply below_alloc | apply pw_below_drewN | apply below_drew1)⟩⟩
    case round =>
     clear H'
     try clear c2
     try clear c2b0
     try clear c2b1
     try clear p2
     try clear c3
     try clear c3b0
     try clear c3b1
     try clear c4
     try clear c4b0
     try clear c4b1
     try clear c4b2
     obtain ⟨x3_1, x12_1, rfl, HA, HK1, HO_3, HO_10, HB⟩ := hrel
     cases gk with
     | zero => exact absurd HA.out (by simp [spanout_Escape.l0])
     | succ k1 =>
      have H := HA.out
      clear HA
      simp only [spanout_Escape.l0] at H
      by_cases c10 : x12_1 < (y149.length : Int)
      ·
       rw [if_pos c10] at H
       have c10b0 : decide (x12_1 < (y149.length : Int)) = true := decide_eq_true c10
       clear c10
       by_cases c11 : 0 ≤ x12_1
       ·
        rw [if_pos c11] at H
        have c11b0 : decide (0 ≤ x12_1) = true := decide_eq_true c11
        clear c11
        by_cases c12 : x12_1 < (y149.length : Int)
        ·
         rw [if_pos c12] at H
         have c12b0 : decide (x12_1 < (y149.length : Int)) = true := decide_eq_true c12
         clear c12
         replace H := Option.bind_eq_some_iff.mp H
         obtain ⟨t153, A130, H⟩ := H
         replace H : (if t153 ≥ 0 then (if x3_1.length < 140737488355328 then ((some (x3_1 ++ [92] : List Int)).bind fun y154 => (if y154.length < 140737488355328 then (spanout_Escape.l0 k1 (y154 ++ [rd y149 x12_1]) y149 (y149.length : Int) (wrap64 (x12_1 + 1))) else (none))) else (none)) else (if x3_1.length < 140737488355328 then (spanout_Escape.l0 k1 (x3_1 ++ [rd y149 x12_1]) y149 (y149.length : Int) (wrap64 (x12_1 + 1))) else (none))) = some r := H
         have A13 := Aside0.mk A130
         clear A130
         by_cases c14 : t153 ≥ 0
         ·
          rw [if_pos c14] at H
          have c14b0 : decide (0 ≤ t153) = true := decide_eq_true c14
          clear c14
          by_cases c15 : x3_1.length < 140737488355328
          ·
           rw [if_pos c15] at H
           have LMc15 := Aside0.mk c15
           clear c15
           obtain ⟨y154, hy154⟩ : ∃ y_ : List Int, y_ = (x3_1 ++ [92]) := ⟨_, rfl⟩
           replace H : (if y154.length < 140737488355328 then (spanout_Escape.l0 k1 (y154 ++ [rd y149 x12_1]) y149 (y149.length : Int) (wrap64 (x12_1 + 1))) else (none)) = some r := by first | (rw [hy154]; with_reducible exact H) | (have H2_ := (Option.bind_some _ _).symm.trans H; rw [hy154]; with_reducible exact H2_) | (have H2_ := (Option.bind_some _ _).symm.trans H; with_reducible exact H2_) | with_reducible exact H | (rw [hy154]; exact H) | exact H
           have Ny154 := Aside0.mk hy154
           clear hy154
           by_cases c16 : y154.length < 140737488355328
           ·
            rw [if_pos c16] at H
            have LMc16 := Aside0.mk c16
            clear c16
            obtain ⟨y157, hy157⟩ : ∃ y_ : List Int, y_ = (y154 ++ [rd y149 x12_1]) := ⟨_, rfl⟩
            replace H : (spanout_Escape.l0 k1 y157 y149 (y149.length : Int) (wrap64 (x12_1 + 1))) = some r := by first | (rw [hy157]; with_reducible exact H) | (have H2_ := (Option.bind_some _ _).symm.trans H; rw [hy157]; with_reducible exact H2_) | (have H2_ := (Option.bind_some _ _).symm.trans H; with_reducible exact H2_) | with_reducible exact H | (rw [hy157]; exact H) | exact H
            have Ny157 := Aside0.mk hy157
            clear hy157
            have H' := Aside0.mk H
            clear H
            have p152 : 0 ≤ (x12_1 : Int) := of_decide_eq_true (by first | (with_reducible assumption) | assumption)
            have q152 : x12_1 < (y149.length : Int) := of_decide_eq_true (by first | (with_reducible assumption) | assumption)
            obtain ⟨ad152, e152, hx152_0⟩ := Kd.at_int (Kd.V_reads' HO_10.out).2.2 x12_1 p152 q152
            cases e152
            replace p152 := eq_true p152
            replace q152 := eq_true q152
            go_wp2_with (first | ((with_reducible refine gate_callee (f := 57) rfl ?_); refine goesL_ (some 17) rfl rfl Tryd.func57 (by kernel_rfl) rfl #[.string (⟨#[92, 42, 91, 93, 35, 62, 45, 96]⟩ : ByteArray), .int .u8 (rd y149 x12_1)] rfl (by (try simp only [List.map_toArray, List.map_cons, List.map_nil]); first | done | rfl | (simp only [List.length_drop, List.length_take]; rfl)) ?_; (with_reducible refine (strings_IndexByte.calls (⟨#[92, 42, 91, 93, 35, 62, 45, 96]⟩ : ByteArray) (rd y149 x12_1) t153 _ A13.out).mono ?_); rintro e w17 ⟨rfl, hb⟩; refine ⟨_, rfl, ?_⟩; have n0_ := Aside0.mk (Kd.R_below (by (with_reducible repeat (first | apply Kd.R_alloc | apply Kd.R_drewN | apply Kd.R_drew)); exact HO_3.out) hb); have n1_ := Aside0.mk (Kd.V_below (by (with_reducible repeat (first | apply Kd.V_alloc | apply Kd.V_drewN | apply Kd.V_drew)); exact HO_10.out) hb); have n2_ := Aside0.mk (below_step (by repeat (with_reducible first | exact HB.out | apply below_alloc | apply pw_below_drewN | apply below_drew1)) hb); clear HO_3; clear HO_10; clear HB; have HO_3 := n0_; have HO_10 := n1_; have HB := n2_; clear n0_ n1_ n2_; (try clear hb); (try clear hb2); (try clear hk); (try clear hi)) | ((with_reducible refine gate_builtin (b := .append) (xs := #[.tmp 19, .tmp 20]) rfl ?_); at_builtin; refine Kd.R_append (Kd.int .u8) (w0 := w) w.heap.size rfl (.tmp 19) (.tmp 20) 54 5 (.int .u8 0) 1 rfl Tryd.underlying54 info5 rfl (by decide) (by omega) u3 x3_1 92 [.int .u8 92] (fun _ => True) (fun _ => False) rfl rfl ?aP (fun _ hk => hk.elim) ?aF ?aO ?aB ?aS ?aL ?_; (case aP => exact rfl); (case aB => exact (by repeat (with_reducible first | exact HB.out | apply below_alloc | apply pw_below_drewN | apply below_drew1))); (case aF => exact (fun _ _ => trivial)); (case aO => exact (by (with_reducible repeat (first | apply Kd.R_alloc | apply Kd.R_drewN | apply Kd.R_drew)); exact HO_3.out)); (case aS => exact (below_size (by repeat (with_reducible first | exact HB.out | apply below_alloc | apply pw_below_drewN | apply below_drew1)))); (case aL => have := LMc15.out; omega); intro v155 w18 ho hb hg hat; rw [← Ny154.out] at ho; have n0_ := Aside0.mk (Kd.V_afterv (ok := (fun _ => True)) (by (with_reducible repeat (first | apply Kd.V_alloc | apply Kd.V_drewN | apply Kd.V_drew)); exact Kd.V_mono HO_10.out (fun _ hk => ⟨trivial, hk⟩)) hg hat); have n1_ := Aside0.mk (hb); have n2_ := Aside0.mk (ho); clear HO_10; clear HB; clear HO_3; have HO_10 := n0_; have HB := n1_; have HO156 := n2_; clear n0_ n1_ n2_; clear ho hb hg hat) | ((with_reducible refine gate_builtin (b := .append) (xs := #[.tmp 22, .tmp 24]) rfl ?_); at_builtin; refine Kd.R_append (Kd.int .u8) (w0 := w) w.heap.size rfl (.tmp 22) (.tmp 24) 54 5 (.int .u8 0) 1 rfl Tryd.underlying54 info5 rfl (by decide) (by omega) v155 y154 (rd y149 x12_1) [.int .u8 (rd y149 x12_1)] (fun _ => True) (fun _ => False) rfl rfl ?aP (fun _ hk => hk.elim) ?aF ?aO ?aB ?aS ?aL ?_; (case aP => exact rfl); (case aB => exact (by repeat (with_reducible first | exact HB.out | apply below_alloc | apply pw_below_drewN | apply below_drew1))); (case aF => exact (fun _ _ => trivial)); (case aO => exact (by (with_reducible repeat (first | apply Kd.R_alloc | apply Kd.R_drewN | apply Kd.R_drew)); exact HO156.out)); (case aS => exact (below_size (by repeat (with_reducible first | exact HB.out | apply below_alloc | apply pw_below_drewN | apply below_drew1)))); (case aL => have := LMc16.out; omega); intro v158 w19 ho hb hg hat; rw [← Ny157.out] at ho; have n0_ := Aside0.mk (Kd.V_afterv (ok := (fun _ => True)) (by (with_reducible repeat (first | apply Kd.V_alloc | apply Kd.V_drewN | apply Kd.V_drew)); exact HO_10.out) hg hat); have n1_ := Aside0.mk (hb); have n2_ := Aside0.mk (ho); clear HO_10; clear HB; clear HO156; have HO_10 := n0_; have HB := n1_; have HO159 := n2_; clear n0_ n1_ n2_; clear ho hb hg hat))
            go_roundg k1
            case measure => have := HK1.out; omega
            case rel => exact ⟨(y157), (wrap64 (x12_1 + 1)), (by first | rfl | (simp; done) | (simp [*]; done) | (simp [bne, beq_nil_E]; done)), H', ⟨by have := HK1.out; omega⟩, ⟨by (with_reducible repeat (first | apply Kd.R_alloc | apply Kd.R_drewN | apply Kd.R_drew)); exact HO159.out⟩, ⟨by (with_reducible repeat (first | apply Kd.V_alloc | apply Kd.V_drewN | apply Kd.V_drew)); exact Kd.V_mono HO_10.out (fun _ hk => hk.2)⟩, ⟨by repeat (with_reducible first | exact HB.out | apply below_alloc | apply pw_below_drewN | apply below_drew1)⟩⟩
           ·
            rw [if_neg c16] at H
            exact absurd H (by simp)
          ·
           rw [if_neg c15] at H
           exact absurd H (by simp)
         ·
          rw [if_neg c14] at H
          have c14b0 : decide (0 ≤ t153) = false := decide_eq_false c14
          clear c14
          by_cases c20 : x3_1.length < 140737488355328
          ·
           rw [if_pos c20] at H
           have LMc20 := Aside0.mk c20
           clear c20
           obtain ⟨y160, hy160⟩ : ∃ y_ : List Int, y_ = (x3_1 ++ [rd y149 x12_1]) := ⟨_, rfl⟩
           replace H : (spanout_Escape.l0 k1 y160 y149 (y149.length : Int) (wrap64 (x12_1 + 1))) = some r := by first | (rw [hy160]; with_reducible exact H) | (have H2_ := (Option.bind_some _ _).symm.trans H; rw [hy160]; with_reducible exact H2_) | (have H2_ := (Option.bind_some _ _).symm.trans H; with_reducible exact H2_) | with_reducible exact H | (rw [hy160]; exact H) | exact H
           have Ny160 := Aside0.mk hy160
           clear hy160
           have H' := Aside0.mk H
           clear H
           have p152 : 0 ≤ (x12_1 : Int) := of_decide_eq_true (by first | (with_reducible assumption) | assumption)
           have q152 : x12_1 < (y149.length : Int) := of_decide_eq_true (by first | (with_reducible assumption) | assumption)
           obtain ⟨ad152, e152, hx152_0⟩ := Kd.at_int (Kd.V_reads' HO_10.out).2.2 x12_1 p152 q152
           cases e152
           replace p152 := eq_true p152
           replace q152 := eq_true q152
           go_wp2_with (first | ((with_reducible refine gate_callee (f := 57) rfl ?_); refine goesL_ (some 17) rfl rfl Tryd.func57 (by kernel_rfl) rfl #[.string (⟨#[92, 42, 91, 93, 35, 62, 45, 96]⟩ : ByteArray), .int .u8 (rd y149 x12_1)] rfl (by (try simp only [List.map_toArray, List.map_cons, List.map_nil]); first | done | rfl | (simp only [List.length_drop, List.length_take]; rfl)) ?_; (with_reducible refine (strings_IndexByte.calls (⟨#[92, 42, 91, 93, 35, 62, 45, 96]⟩ : ByteArray) (rd y149 x12_1) t153 _ A13.out).mono ?_); rintro e w21 ⟨rfl, hb⟩; refine ⟨_, rfl, ?_⟩; have n0_ := Aside0.mk (Kd.R_below (by (with_reducible repeat (first | apply Kd.R_alloc | apply Kd.R_drewN | apply Kd.R_drew)); exact HO_3.out) hb); have n1_ := Aside0.mk (Kd.V_below (by (with_reducible repeat (first | apply Kd.V_alloc | apply Kd.V_drewN | apply Kd.V_drew)); exact HO_10.out) hb); have n2_ := Aside0.mk (below_step (by repeat (with_reducible first | exact HB.out | apply below_alloc | apply pw_below_drewN | apply below_drew1)) hb); clear HO_3; clear HO_10; clear HB; have HO_3 := n0_; have HO_10 := n1_; have HB := n2_; clear n0_ n1_ n2_; (try clear hb); (try clear hb2); (try clear hk); (try clear hi)) | ((with_reducible refine gate_builtin (b := .append) (xs := #[.tmp 22, .tmp 24]) rfl ?_); at_builtin; refine Kd.R_append (Kd.int .u8) (w0 := w) w.heap.size rfl (.tmp 22) (.tmp 24) 54 5 (.int .u8 0) 1 rfl Tryd.underlying54 info5 rfl (by decide) (by omega) u3 x3_1 (rd y149 x12_1) [.int .u8 (rd y149 x12_1)] (fun _ => True) (fun _ => False) rfl rfl ?aP (fun _ hk => hk.elim) ?aF ?aO ?aB ?aS ?aL ?_; (case aP => exact rfl); (case aB => exact (by repeat (with_reducible first | exact HB.out | apply below_alloc | apply pw_below_drewN | apply below_drew1))); (case aF => exact (fun _ _ => trivial)); (case aO => exact (by (with_reducible repeat (first | apply Kd.R_alloc | apply Kd.R_drewN | apply Kd.R_drew)); exact HO_3.out)); (case aS => exact (below_size (by repeat (with_reducible first | exact HB.out | apply below_alloc | apply pw_below_drewN | apply below_drew1)))); (case aL => have := LMc20.out; omega); intro v161 w22 ho hb hg hat; rw [← Ny160.out] at ho; have n0_ := Aside0.mk (Kd.V_afterv (ok := (fun _ => True)) (by (with_reducible repeat (first | apply Kd.V_alloc | apply Kd.V_drewN | apply Kd.V_drew)); exact Kd.V_mono HO_10.out (fun _ hk => ⟨trivial, hk⟩)) hg hat); have n1_ := Aside0.mk (hb); have n2_ := Aside0.mk (ho); clear HO_10; clear HB; clear HO_3; have HO_10 := n0_; have HB := n1_; have HO162 := n2_; clear n0_ n1_ n2_; clear ho hb hg hat))
           go_roundg k1
           case measure => have := HK1.out; omega
           case rel => exact ⟨(y160), (wrap64 (x12_1 + 1)), (by first | rfl | (simp; done) | (simp [*]; done) | (simp [bne, beq_nil_E]; done)), H', ⟨by have := HK1.out; omega⟩, ⟨by (with_reducible repeat (first | apply Kd.R_alloc | apply Kd.R_drewN | apply Kd.R_drew)); exact HO162.out⟩, ⟨by (with_reducible repeat (first | apply Kd.V_alloc | apply Kd.V_drewN | apply Kd.V_drew)); exact Kd.V_mono HO_10.out (fun _ hk => hk.2)⟩, ⟨by repeat (with_reducible first | exact HB.out | apply below_alloc | apply pw_below_drewN | apply below_drew1)⟩⟩
          ·
           rw [if_neg c20] at H
           exact absurd H (by simp)
        ·
         rw [if_neg c12] at H
         exact absurd H (by simp)
       ·
        rw [if_neg c11] at H
        exact absurd H (by simp)
      ·
       rw [if_neg c10] at H
       have c10b0 : decide (x12_1 < (y149.length : Int)) = false := decide_eq_false c10
       clear c10
       obtain rfl := Option.some.inj H
       have hcv23 := own_string (P := Tryd.prog) Tryd.underlying54 Tryd.underlying5 Tryd.underlying9 (Kd.own_of_R HO_3.out)
       go_wp2
       go_ret
       exact ⟨by first | rfl | (simp [errW_none, errW_some] <;> rfl) | (simp [*, errW_none, errW_some] <;> rfl), by repeat (with_reducible first | exact HB.out | apply below_alloc | apply pw_below_drewN | apply below_drew1)⟩
   ·
    rw [if_neg c4] at H
    exact absurd H (by simp)
  ·
   rw [if_neg c3] at H
   exact absurd H (by simp)
 ·
  rw [if_neg c2] at H
  exact absurd H (by simp)

-- GIVEN: function 112 (strings_HasPrefix)

-- GIVEN: function 115 (strings_HasSuffix)

/-! ### spanout_padded: function 80 -/
def spanout_padded.j0 : Nat → ByteArray → Bool → Option (ByteArray)
 | 0, _, _ => none
 | k + 1, x0, x3 => (strings_HasPrefix.f x0 (⟨#[32]⟩ : ByteArray)).bind fun t165 => (if t165 = true then ((strings_HasSuffix.f x0 (⟨#[32]⟩ : ByteArray)).bind fun t166 => (if t166 = true then ((strings_Trim.f x0 (⟨#[32]⟩ : ByteArray)).bind fun t167 => (if x3 = true then (if 1 + x0.size ≤ 9223372036854775807 then (if ((⟨#[32]⟩ : ByteArray) ++ x0).size + 1 ≤ 9223372036854775807 then (some (((⟨#[32]⟩ : ByteArray) ++ x0) ++ (⟨#[32]⟩ : ByteArray))) else (none)) else (none)) else (if t167.toList = ([] : List UInt8) then (some x0) else (if 1 + x0.size ≤ 9223372036854775807 then (if ((⟨#[32]⟩ : ByteArray) ++ x0).size + 1 ≤ 9223372036854775807 then (some (((⟨#[32]⟩ : ByteArray) ++ x0) ++ (⟨#[32]⟩ : ByteArray))) else (none)) else (none))))) else (if x3 = true then (if 1 + x0.size ≤ 9223372036854775807 then (if ((⟨#[32]⟩ : ByteArray) ++ x0).size + 1 ≤ 9223372036854775807 then (some (((⟨#[32]⟩ : ByteArray) ++ x0) ++ (⟨#[32]⟩ : ByteArray))) else (none)) else (none)) else (some x0)))) else (if x3 = true then (if 1 + x0.size ≤ 9223372036854775807 then (if ((⟨#[32]⟩ : ByteArray) ++ x0).size + 1 ≤ 9223372036854775807 then (some (((⟨#[32]⟩ : ByteArray) ++ x0) ++ (⟨#[32]⟩ : ByteArray))) else (none)) else (none)) else (some x0)))
def spanout_padded.f (k : Nat) (a0 : ByteArray) : Option (ByteArray) := (strings_HasPrefix.f a0 (⟨#[96]⟩ : ByteArray)).bind fun t163 => (if t163 = true then (spanout_padded.j0 k a0 true) else ((strings_HasSuffix.f a0 (⟨#[96]⟩ : ByteArray)).bind fun t164 => (spanout_padded.j0 k a0 t164)))
set_option maxHeartbeats 8000000 in
set_option maxRecDepth 100000 in
theorem spanout_padded.calls (k : Nat) (a0 : ByteArray) (r : ByteArray) (w : World) (h : spanout_padded.f k a0 = some r) :
  Calls Tryd.prog 80 #[.string a0] w fun e w' => e = .returned (.string r) ∧ Below w.heap.size w w' := by
 have HB := Aside0.mk (Below.refl w.heap.size w)
 have H : ((strings_HasPrefix.f a0 (⟨#[96]⟩ : ByteArray)).bind fun t163 => (if t163 = true then (spanout_padded.j0 k a0 true) else ((strings_HasSuffix.f a0 (⟨#[96]⟩ : ByteArray)).bind fun t164 => (spanout_padded.j0 k a0 t164)))) = some r := h
 clear h
 have HC2 := Aside0.mk H
 clear H
 go_enter Tryd.func80, Tryd.ntmps80
 go_upto_region 1 with (fail)
 go_cut [3] (fun v3 wc => ∃ (kq : Nat) (x3_1 : Bool), v3 = .bool x3_1 ∧ Aside0 (spanout_padded.j0 kq a0 x3_1 = some r) ∧ Aside0 (kq ≤ k) ∧ Aside0 (Below w.heap.size w wc))
 case first =>
  have H := HC2.out
  clear HC2
  replace H := Option.bind_eq_some_iff.mp H
  obtain ⟨t163, A30, H⟩ := H
  replace H : (if t163 = true then (spanout_padded.j0 k a0 true) else ((strings_HasSuffix.f a0 (⟨#[96]⟩ : ByteArray)).bind fun t164 => (spanout_padded.j0 k a0 t164))) = some r := H
  have A3 := Aside0.mk A30
  clear A30
  by_cases c4 : t163 = true
  ·
   subst c4
   have H1 : (spanout_padded.j0 k a0 true) = some r := by rw [if_pos rfl] at H; exact H
   clear H
   have H := H1
   clear H1
   have H' := Aside0.mk H
   clear H
   go_wp2_with (first | ((with_reducible refine gate_callee (f := 112) rfl ?_); refine goesL_ (some 6) rfl rfl Tryd.func112 (by kernel_rfl) rfl #[.string a0, .string (⟨#[96]⟩ : ByteArray)] rfl (by (try simp only [List.map_toArray, List.map_cons, List.map_nil]); first | done | rfl | (simp only [List.length_drop, List.length_take]; rfl)) ?_; (with_reducible refine (strings_HasPrefix.calls a0 (⟨#[96]⟩ : ByteArray) true _ A3.out).mono ?_); rintro e w5 ⟨rfl, hb⟩; refine ⟨_, rfl, ?_⟩; have n0_ := Aside0.mk (below_step (by repeat (with_reducible first | exact HB.out | apply below_alloc | apply pw_below_drewN | apply below_drew1)) hb); clear HB; have HB := n0_; clear n0_; (try clear hb); (try clear hb2); (try clear hk); (try clear hi)))
   go_meet
   case rel => exact ⟨_, (true), (by first | rfl | (simp; done) | (simp [*]; done) | (simp [bne, beq_nil_E]; done)), H', ⟨by first | omega | exact Nat.le_refl _⟩, ⟨by repeat (with_reducible first | exact HB.out | apply below_alloc | apply pw_below_drewN | apply below_drew1)⟩⟩
  ·
   replace c4 := Bool.eq_false_iff.mpr c4
   subst c4
   have H1 : ((strings_HasSuffix.f a0 (⟨#[96]⟩ : ByteArray)).bind fun t164 => (spanout_padded.j0 k a0 t164)) = some r := by rw [if_neg (show ¬ (false = true) by decide)] at H; exact H
   clear H
   have H := H1
   clear H1
   replace H := Option.bind_eq_some_iff.mp H
   obtain ⟨t164, A60, H⟩ := H
   replace H : (spanout_padded.j0 k a0 t164) = some r := H
   have A6 := Aside0.mk A60
   clear A60
   have H' := Aside0.mk H
   clear H
   go_wp2_with (first | ((with_reducible refine gate_callee (f := 112) rfl ?_); refine goesL_ (some 6) rfl rfl Tryd.func112 (by kernel_rfl) rfl #[.string a0, .string (⟨#[96]⟩ : ByteArray)] rfl (by (try simp only [List.map_toArray, List.map_cons, List.map_nil]); first | done | rfl | (simp only [List.length_drop, List.length_take]; rfl)) ?_; (with_reducible refine (strings_HasPrefix.calls a0 (⟨#[96]⟩ : ByteArray) false _ A3.out).mono ?_); rintro e w7 ⟨rfl, hb⟩; refine ⟨_, rfl, ?_⟩; have n0_ := Aside0.mk (below_step (by repeat (with_reducible first | exact HB.out | apply below_alloc | apply pw_below_drewN | apply below_drew1)) hb); clear HB; have HB := n0_; clear n0_; (try clear hb); (try clear hb2); (try clear hk); (try clear hi); have tkA6 : True := trivial) | (go_at_call 115; clear tkA6; (with_reducible refine (strings_HasSuffix.calls a0 (⟨#[96]⟩ : ByteArray) t164 _ A6.out).mono ?_); rintro e w8 ⟨rfl, hb⟩; have n0_ := Aside0.mk (below_step (by repeat (with_reducible first | exact HB.out | apply below_alloc | apply pw_below_drewN | apply below_drew1)) hb); clear HB; have HB := n0_; clear n0_; (try clear hb); (try clear hb2); (try clear hk); (try clear hi)))
   go_meet
   case rel => exact ⟨_, (t164), (by first | rfl | (simp; done) | (simp [*]; done) | (simp [bne, beq_nil_E]; done)), H', ⟨by first | omega | exact Nat.le_refl _⟩, ⟨by repeat (with_reducible first | exact HB.out | apply below_alloc | apply pw_below_drewN | apply below_drew1)⟩⟩
 case rest =>
  clear HC2
  try clear c1
  try clear p2
  try clear c4
  try clear c8
  obtain ⟨kq, x3_1, rfl, HA, HJ1, HB⟩ := hcut
  cases kq with
  | zero => exact absurd HA.out (by simp [spanout_padded.j0])
  | succ kj1 =>
   have H := HA.out
   clear HA
   simp only [spanout_padded.j0] at H
   replace H := Option.bind_eq_some_iff.mp H
   obtain ⟨t165, A90, H⟩ := H
   replace H : (if t165 = true then ((strings_HasSuffix.f a0 (⟨#[32]⟩ : ByteArray)).bind fun t166 => (if t166 = true then ((strings_Trim.f a0 (⟨#[32]⟩ : ByteArray)).bind fun t167 => (if x3_1 = true then (if 1 + a0.size ≤ 9223372036854775807 then (if ((⟨#[32]⟩ : ByteArray) ++ a0).size + 1 ≤ 9223372036854775807 then (some (((⟨#[32]⟩ : ByteArray) ++ a0) ++ (⟨#[32]⟩ : ByteArray))) else (none)) else (none)) else (if t167.toList = ([] : List UInt8) then (some a0) else (if 1 + a0.size ≤ 9223372036854775807 then (if ((⟨#[32]⟩ : ByteArray) ++ a0).size + 1 ≤ 9223372036854775807 then (some (((⟨#[32]⟩ : ByteArray) ++ a0) ++ (⟨#[32]⟩ : ByteArray))) else (none)) else (none))))) else (if x3_1 = true then (if 1 + a0.size ≤ 9223372036854775807 then (if ((⟨#[32]⟩ : ByteArray) ++ a0).size + 1 ≤ 9223372036854775807 then (some (((⟨#[32]⟩ : ByteArray) ++ a0) ++ (⟨#[32]⟩ : ByteArray))) else (none)) else (none)) else (some a0)))) else (if x3_1 = true then (if 1 + a0.size ≤ 9223372036854775807 then (if ((⟨#[32]⟩ : ByteArray) ++ a0).size + 1 ≤ 9223372036854775807 then (some (((⟨#[32]⟩ : ByteArray) ++ a0) ++ (⟨#[32]⟩ : ByteArray))) else (none)) else (none)) else (some a0))) = some r := H
   have A9 := Aside0.mk A90
   clear A90
   by_cases c10 : t165 = true
   ·
    subst c10
    have H1 : ((strings_HasSuffix.f a0 (⟨#[32]⟩ : ByteArray)).bind fun t166 => (if t166 = true then ((strings_Trim.f a0 (⟨#[32]⟩ : ByteArray)).bind fun t167 => (if x3_1 = true then (if 1 + a0.size ≤ 9223372036854775807 then (if ((⟨#[32]⟩ : ByteArray) ++ a0).size + 1 ≤ 9223372036854775807 then (some (((⟨#[32]⟩ : ByteArray) ++ a0) ++ (⟨#[32]⟩ : ByteArray))) else (none)) else (none)) else (if t167.toList = ([] : List UInt8) then (some a0) else (if 1 + a0.size ≤ 9223372036854775807 then (if ((⟨#[32]⟩ : ByteArray) ++ a0).size + 1 ≤ 9223372036854775807 then (some (((⟨#[32]⟩ : ByteArray) ++ a0) ++ (⟨#[32]⟩ : ByteArray))) else (none)) else (none))))) else (if x3_1 = true then (if 1 + a0.size ≤ 9223372036854775807 then (if ((⟨#[32]⟩ : ByteArray) ++ a0).size + 1 ≤ 9223372036854775807 then (some (((⟨#[32]⟩ : ByteArray) ++ a0) ++ (⟨#[32]⟩ : ByteArray))) else (none)) else (none)) else (some a0)))) = some r := by rw [if_pos rfl] at H; exact H
    clear H
    have H := H1
    clear H1
    replace H := Option.bind_eq_some_iff.mp H
    obtain ⟨t166, A110, H⟩ := H
    replace H : (if t166 = true then ((strings_Trim.f a0 (⟨#[32]⟩ : ByteArray)).bind fun t167 => (if x3_1 = true then (if 1 + a0.size ≤ 9223372036854775807 then (if ((⟨#[32]⟩ : ByteArray) ++ a0).size + 1 ≤ 9223372036854775807 then (some (((⟨#[32]⟩ : ByteArray) ++ a0) ++ (⟨#[32]⟩ : ByteArray))) else (none)) else (none)) else (if t167.toList = ([] : List UInt8) then (some a0) else (if 1 + a0.size ≤ 9223372036854775807 then (if ((⟨#[32]⟩ : ByteArray) ++ a0).size + 1 ≤ 9223372036854775807 then (some (((⟨#[32]⟩ : ByteArray) ++ a0) ++ (⟨#[32]⟩ : ByteArray))) else (none)) else (none))))) else (if x3_1 = true then (if 1 + a0.size ≤ 9223372036854775807 then (if ((⟨#[32]⟩ : ByteArray) ++ a0).size + 1 ≤ 9223372036854775807 then (some (((⟨#[32]⟩ : ByteArray) ++ a0) ++ (⟨#[32]⟩ : ByteArray))) else (none)) else (none)) else (some a0))) = some r := H
    have A11 := Aside0.mk A110
    clear A110
    by_cases c12 : t166 = true
    ·
     subst c12
     have H1 : ((strings_Trim.f a0 (⟨#[32]⟩ : ByteArray)).bind fun t167 => (if x3_1 = true then (if 1 + a0.size ≤ 9223372036854775807 then (if ((⟨#[32]⟩ : ByteArray) ++ a0).size + 1 ≤ 9223372036854775807 then (some (((⟨#[32]⟩ : ByteArray) ++ a0) ++ (⟨#[32]⟩ : ByteArray))) else (none)) else (none)) else (if t167.toList = ([] : List UInt8) then (some a0) else (if 1 + a0.size ≤ 9223372036854775807 then (if ((⟨#[32]⟩ : ByteArray) ++ a0).size + 1 ≤ 9223372036854775807 then (some (((⟨#[32]⟩ : ByteArray) ++ a0) ++ (⟨#[32]⟩ : ByteArray))) else (none)) else (none))))) = some r := by rw [if_pos rfl] at H; exact H
     clear H
     have H := H1
     clear H1
     replace H := Option.bind_eq_some_iff.mp H
     obtain ⟨t167, A130, H⟩ := H
     replace H : (if x3_1 = true then (if 1 + a0.size ≤ 9223372036854775807 then (if ((⟨#[32]⟩ : ByteArray) ++ a0).size + 1 ≤ 9223372036854775807 then (some (((⟨#[32]⟩ : ByteArray) ++ a0) ++ (⟨#[32]⟩ : ByteArray))) else (none)) else (none)) else (if t167.toList = ([] : List UInt8) then (some a0) else (if 1 + a0.size ≤ 9223372036854775807 then (if ((⟨#[32]⟩ : ByteArray) ++ a0).size + 1 ≤ 9223372036854775807 then (some (((⟨#[32]⟩ : ByteArray) ++ a0) ++ (⟨#[32]⟩ : ByteArray))) else (none)) else (none)))) = some r := H
     have A13 := Aside0.mk A130
     clear A130
     by_cases c14 : x3_1 = true
     ·
      subst c14
      have H1 : (if 1 + a0.size ≤ 9223372036854775807 then (if ((⟨#[32]⟩ : ByteArray) ++ a0).size + 1 ≤ 9223372036854775807 then (some (((⟨#[32]⟩ : ByteArray) ++ a0) ++ (⟨#[32]⟩ : ByteArray))) else (none)) else (none)) = some r := by rw [if_pos rfl] at H; exact H
      clear H
      have H := H1
      clear H1
      by_cases c15 : 1 + a0.size ≤ 9223372036854775807
      ·
       rw [if_pos c15] at H
       have c15b0 := eq_true c15
       have c15b1 : decide (1 + a0.size ≤ 9223372036854775807) = true := decide_eq_true c15
       try have c15b2 : (9223372036854775807 < 1 + a0.size) = False := eq_false (Nat.not_lt.2 c15)
       by_cases c16 : ((⟨#[32]⟩ : ByteArray) ++ a0).size + 1 ≤ 9223372036854775807
       ·
        rw [if_pos c16] at H
        have c16b0 := eq_true c16
        have c16b1 : decide (((⟨#[32]⟩ : ByteArray) ++ a0).size + 1 ≤ 9223372036854775807) = true := decide_eq_true c16
        try have c16b2 : (9223372036854775807 < ((⟨#[32]⟩ : ByteArray) ++ a0).size + 1) = False := eq_false (Nat.not_lt.2 c16)
        (try (have c16s := c16; simp only [ByteArray.size_append, lit_size, List.length_cons, List.length_nil, Nat.zero_add, Nat.reduceAdd] at c16s; have c16s0 := eq_true c16s; have c16s1 := decide_eq_true c16s; have c16s2 := eq_false (Nat.not_lt.2 c16s); clear c16s))
        obtain rfl := Option.some.inj H
        go_wp2_with (first | ((with_reducible refine gate_callee (f := 112) rfl ?_); refine goesL_ (some 12) rfl rfl Tryd.func112 (by kernel_rfl) rfl #[.string a0, .string (⟨#[32]⟩ : ByteArray)] rfl (by (try simp only [List.map_toArray, List.map_cons, List.map_nil]); first | done | rfl | (simp only [List.length_drop, List.length_take]; rfl)) ?_; (with_reducible refine (strings_HasPrefix.calls a0 (⟨#[32]⟩ : ByteArray) true _ A9.out).mono ?_); rintro e w17 ⟨rfl, hb⟩; refine ⟨_, rfl, ?_⟩; have n0_ := Aside0.mk (below_step (by repeat (with_reducible first | exact HB.out | apply below_alloc | apply pw_below_drewN | apply below_drew1)) hb); clear HB; have HB := n0_; clear n0_; (try clear hb); (try clear hb2); (try clear hk); (try clear hi); have tkA11 : True := trivial) | (go_at_call 115; clear tkA11; (with_reducible refine (strings_HasSuffix.calls a0 (⟨#[32]⟩ : ByteArray) true _ A11.out).mono ?_); rintro e w18 ⟨rfl, hb⟩; have n0_ := Aside0.mk (below_step (by repeat (with_reducible first | exact HB.out | apply below_alloc | apply pw_below_drewN | apply below_drew1)) hb); clear HB; have HB := n0_; clear n0_; (try clear hb); (try clear hb2); (try clear hk); (try clear hi); have tkA13 : True := trivial) | (go_at_call 75; clear tkA13; (with_reducible refine (strings_Trim.calls a0 (⟨#[32]⟩ : ByteArray) t167 _ A13.out).mono ?_); rintro e w19 ⟨rfl, hb⟩; have n0_ := Aside0.mk (below_step (by repeat (with_reducible first | exact HB.out | apply below_alloc | apply pw_below_drewN | apply below_drew1)) hb); clear HB; have HB := n0_; clear n0_; (try clear hb); (try clear hb2); (try clear hk); (try clear hi)))
        go_ret
        exact ⟨by first | rfl | (simp [errW_none, errW_some] <;> rfl) | (simp [*, errW_none, errW_some] <;> rfl), by repeat (with_reducible first | exact HB.out | apply below_alloc | apply pw_below_drewN | apply below_drew1)⟩
       ·
        rw [if_neg c16] at H
        exact absurd H (by simp)
      ·
       rw [if_neg c15] at H
       exact absurd H (by simp)
     ·
      replace c14 := Bool.eq_false_iff.mpr c14
      subst c14
      have H1 : (if t167.toList = ([] : List UInt8) then (some a0) else (if 1 + a0.size ≤ 9223372036854775807 then (if ((⟨#[32]⟩ : ByteArray) ++ a0).size + 1 ≤ 9223372036854775807 then (some (((⟨#[32]⟩ : ByteArray) ++ a0) ++ (⟨#[32]⟩ : ByteArray))) else (none)) else (none))) = some r := by rw [if_neg (show ¬ (false = true) by decide)] at H; exact H
      clear H
      have H := H1
      clear H1
      by_cases c20 : t167.toList = ([] : List UInt8)
      ·
       rw [if_pos c20] at H
       have c20b0 : (t167.toList == ([] : List UInt8)) = true := beq_iff_eq.mpr c20
       have c20b1 : (t167.toList != ([] : List UInt8)) = false := bne_eq_false_iff_eq.mpr c20
       (try (have c20b0e := c20b0; simp only [beq_nil_E] at c20b0e))
       clear c20
       obtain rfl := Option.some.inj H
       go_wp2_with (first | ((with_reducible refine gate_callee (f := 112) rfl ?_); refine goesL_ (some 12) rfl rfl Tryd.func112 (by kernel_rfl) rfl #[.string a0, .string (⟨#[32]⟩ : ByteArray)] rfl (by (try simp only [List.map_toArray, List.map_cons, List.map_nil]); first | done | rfl | (simp only [List.length_drop, List.length_take]; rfl)) ?_; (with_reducible refine (strings_HasPrefix.calls a0 (⟨#[32]⟩ : ByteArray) true _ A9.out).mono ?_); rintro e w21 ⟨rfl, hb⟩; refine ⟨_, rfl, ?_⟩; have n0_ := Aside0.mk (below_step (by repeat (with_reducible first | exact HB.out | apply below_alloc | apply pw_below_drewN | apply below_drew1)) hb); clear HB; have HB := n0_; clear n0_; (try clear hb); (try clear hb2); (try clear hk); (try clear hi); have tkA11 : True := trivial) | (go_at_call 115; clear tkA11; (with_reducible refine (strings_HasSuffix.calls a0 (⟨#[32]⟩ : ByteArray) true _ A11.out).mono ?_); rintro e w22 ⟨rfl, hb⟩; have n0_ := Aside0.mk (below_step (by repeat (with_reducible first | exact HB.out | apply below_alloc | apply pw_below_drewN | apply below_drew1)) hb); clear HB; have HB := n0_; clear n0_; (try clear hb); (try clear hb2); (try clear hk); (try clear hi); have tkA13 : True := trivial) | (go_at_call 75; clear tkA13; (with_reducible refine (strings_Trim.calls a0 (⟨#[32]⟩ : ByteArray) t167 _ A13.out).mono ?_); rintro e w23 ⟨rfl, hb⟩; have n0_ := Aside0.mk (below_step (by repeat (with_reducible first | exact HB.out | apply below_alloc | apply pw_below_drewN | apply below_drew1)) hb); clear HB; have HB := n0_; clear n0_; (try clear hb); (try clear hb2); (try clear hk); (try clear hi)))
       go_ret
       exact ⟨by first | rfl | (simp [errW_none, errW_some] <;> rfl) | (simp [*, errW_none, errW_some] <;> rfl), by repeat (with_reducible first | exact HB.out | apply below_alloc | apply pw_below_drewN | apply below_drew1)⟩
      ·
       rw [if_neg c20] at H
       have c20b0 : (t167.toList == ([] : List UInt8)) = false := beq_eq_false_iff_ne.mpr c20
       have c20b1 : (t167.toList != ([] : List UInt8)) = true := bne_iff_ne.mpr c20
       (try (have c20b0e := c20b0; simp only [beq_nil_E] at c20b0e))
       by_cases c24 : 1 + a0.size ≤ 9223372036854775807
       ·
        rw [if_pos c24] at H
        have c24b0 := eq_true c24
        have c24b1 : decide (1 + a0.size ≤ 9223372036854775807) = true := decide_eq_true c24
        try have c24b2 : (9223372036854775807 < 1 + a0.size) = False := eq_false (Nat.not_lt.2 c24)
        by_cases c25 : ((⟨#[32]⟩ : ByteArray) ++ a0).size + 1 ≤ 9223372036854775807
        ·
         rw [if_pos c25] at H
         have c25b0 := eq_true c25
         have c25b1 : decide (((⟨#[32]⟩ : ByteArray) ++ a0).size + 1 ≤ 9223372036854775807) = true := decide_eq_true c25
         try have c25b2 : (9223372036854775807 < ((⟨#[32]⟩ : ByteArray) ++ a0).size + 1) = False := eq_false (Nat.not_lt.2 c25)
         (try (have c25s := c25; simp only [ByteArray.size_append, lit_size, List.length_cons, List.length_nil, Nat.zero_add, Nat.reduceAdd] at c25s; have c25s0 := eq_true c25s; have c25s1 := decide_eq_true c25s; have c25s2 := eq_false (Nat.not_lt.2 c25s); clear c25s))
         obtain rfl := Option.some.inj H
         go_wp2_with (first | ((with_reducible refine gate_callee (f := 112) rfl ?_); refine goesL_ (some 12) rfl rfl Tryd.func112 (by kernel_rfl) rfl #[.string a0, .string (⟨#[32]⟩ : ByteArray)] rfl (by (try simp only [List.map_toArray, List.map_cons, List.map_nil]); first | done | rfl | (simp only [List.length_drop, List.length_take]; rfl)) ?_; (with_reducible refine (strings_HasPrefix.calls a0 (⟨#[32]⟩ : ByteArray) true _ A9.out).mono ?_); rintro e w26 ⟨rfl, hb⟩; refine ⟨_, rfl, ?_⟩; have n0_ := Aside0.mk (below_step (by repeat (with_reducible first | exact HB.out | apply below_alloc | apply pw_below_drewN | apply below_drew1)) hb); clear HB; have HB := n0_; clear n0_; (try clear hb); (try clear hb2); (try clear hk); (try clear hi); have tkA11 : True := trivial) | (go_at_call 115; clear tkA11; (with_reducible refine (strings_HasSuffix.calls a0 (⟨#[32]⟩ : ByteArray) true _ A11.out).mono ?_); rintro e w27 ⟨rfl, hb⟩; have n0_ := Aside0.mk (below_step (by repeat (with_reducible first | exact HB.out | apply below_alloc | apply pw_below_drewN | apply below_drew1)) hb); clear HB; have HB := n0_; clear n0_; (try clear hb); (try clear hb2); (try clear hk); (try clear hi); have tkA13 : True := trivial) | (go_at_call 75; clear tkA13; (with_reducible refine (strings_Trim.calls a0 (⟨#[32]⟩ : ByteArray) t167 _ A13.out).mono ?_); rintro e w28 ⟨rfl, hb⟩; have n0_ := Aside0.mk (below_step (by repeat (with_reducible first | exact HB.out | apply below_alloc | apply pw_below_drewN | apply below_drew1)) hb); clear HB; have HB := n0_; clear n0_; (try clear hb); (try clear hb2); (try clear hk); (try clear hi)))
         go_ret
         exact ⟨by first | rfl | (simp [errW_none, errW_some] <;> rfl) | (simp [*, errW_none, errW_some] <;> rfl), by repeat (with_reducible first | exact HB.out | apply below_alloc | apply pw_below_drewN | apply below_drew1)⟩
        ·
         rw [if_neg c25] at H
         exact absurd H (by simp)
       ·
        rw [if_neg c24] at H
        exact absurd H (by simp)
    ·
     replace c12 := Bool.eq_false_iff.mpr c12
     subst c12
     have H1 : (if x3_1 = true then (if 1 + a0.size ≤ 9223372036854775807 then (if ((⟨#[32]⟩ : ByteArray) ++ a0).size + 1 ≤ 9223372036854775807 then (some (((⟨#[32]⟩ : ByteArray) ++ a0) ++ (⟨#[32]⟩ : ByteArray))) else (none)) else (none)) else (some a0)) = some r := by rw [if_neg (show ¬ (false = true) by decide)] at H; exact H
     clear H
     have H := H1
     clear H1
     by_cases c29 : x3_1 = true
     ·
      subst c29
      have H1 : (if 1 + a0.size ≤ 9223372036854775807 then (if ((⟨#[32]⟩ : ByteArray) ++ a0).size + 1 ≤ 9223372036854775807 then (some (((⟨#[32]⟩ : ByteArray) ++ a0) ++ (⟨#[32]⟩ : ByteArray))) else (none)) else (none)) = some r := by rw [if_pos rfl] at H; exact H
      clear H
      have H := H1
      clear H1
      by_cases c30 : 1 + a0.size ≤ 9223372036854775807
      ·
       rw [if_pos c30] at H
       have c30b0 := eq_true c30
       have c30b1 : decide (1 + a0.size ≤ 9223372036854775807) = true := decide_eq_true c30
       try have c30b2 : (9223372036854775807 < 1 + a0.size) = False := eq_false (Nat.not_lt.2 c30)
       by_cases c31 : ((⟨#[32]⟩ : ByteArray) ++ a0).size + 1 ≤ 9223372036854775807
       ·
        rw [if_pos c31] at H
        have c31b0 := eq_true c31
        have c31b1 : decide (((⟨#[32]⟩ : ByteArray) ++ a0).size + 1 ≤ 9223372036854775807) = true := decide_eq_true c31
        try have c31b2 : (9223372036854775807 < ((⟨#[32]⟩ : ByteArray) ++ a0).size + 1) = False := eq_false (Nat.not_lt.2 c31)
        (try (have c31s := c31; simp only [ByteArray.size_append, lit_size, List.length_cons, List.length_nil, Nat.zero_add, Nat.reduceAdd] at c31s; have c31s0 := eq_true c31s; have c31s1 := decide_eq_true c31s; have c31s2 := eq_false (Nat.not_lt.2 c31s); clear c31s))
        obtain rfl := Option.some.inj H
        go_wp2_with (first | ((with_reducible refine gate_callee (f := 112) rfl ?_); refine goesL_ (some 12) rfl rfl Tryd.func112 (by kernel_rfl) rfl #[.string a0, .string (⟨#[32]⟩ : ByteArray)] rfl (by (try simp only [List.map_toArray, List.map_cons, List.map_nil]); first | done | rfl | (simp only [List.length_drop, List.length_take]; rfl)) ?_; (with_reducible refine (strings_HasPrefix.calls a0 (⟨#[32]⟩ : ByteArray) true _ A9.out).mono ?_); rintro e w32 ⟨rfl, hb⟩; refine ⟨_, rfl, ?_⟩; have n0_ := Aside0.mk (below_step (by repeat (with_reducible first | exact HB.out | apply below_alloc | apply pw_below_drewN | apply below_drew1)) hb); clear HB; have HB := n0_; clear n0_; (try clear hb); (try clear hb2); (try clear hk); (try clear hi); have tkA11 : True := trivial) | (go_at_call 115; clear tkA11; (with_reducible refine (strings_HasSuffix.calls a0 (⟨#[32]⟩ : ByteArray) false _ A11.out).mono ?_); rintro e w33 ⟨rfl, hb⟩; have n0_ := Aside0.mk (below_step (by repeat (with_reducible first | exact HB.out | apply below_alloc | apply pw_below_drewN | apply below_drew1)) hb); clear HB; have HB := n0_; clear n0_; (try clear hb); (try clear hb2); (try clear hk); (try clear hi)))
        go_ret
        exact ⟨by first | rfl | (simp [errW_none, errW_some] <;> rfl) | (simp [*, errW_none, errW_some] <;> rfl), by repeat (with_reducible first | exact HB.out | apply below_alloc | apply pw_below_drewN | apply below_drew1)⟩
       ·
        rw [if_neg c31] at H
        exact absurd H (by simp)
      ·
       rw [if_neg c30] at H
       exact absurd H (by simp)
     ·
      replace c29 := Bool.eq_false_iff.mpr c29
      subst c29
      have H1 : (some a0) = some r := by rw [if_neg (show ¬ (false = true) by decide)] at H; exact H
      clear H
      have H := H1
      clear H1
      obtain rfl := Option.some.inj H
      go_wp2_with (first | ((with_reducible refine gate_callee (f := 112) rfl ?_); refine goesL_ (some 12) rfl rfl Tryd.func112 (by kernel_rfl) rfl #[.string a0, .string (⟨#[32]⟩ : ByteArray)] rfl (by (try simp only [List.map_toArray, List.map_cons, List.map_nil]); first | done | rfl | (simp only [List.length_drop, List.length_take]; rfl)) ?_; (with_reducible refine (strings_HasPrefix.calls a0 (⟨#[32]⟩ : ByteArray) true _ A9.out).mono ?_); rintro e w34 ⟨rfl, hb⟩; refine ⟨_, rfl, ?_⟩; have n0_ := Aside0.mk (below_step (by repeat (with_reducible first | exact HB.out | apply below_alloc | apply pw_below_drewN | apply below_drew1)) hb); clear HB; have HB := n0_; clear n0_; (try clear hb); (try clear hb2); (try clear hk); (try clear hi); have tkA11 : True := trivial) | (go_at_call 115; clear tkA11; (with_reducible refine (strings_HasSuffix.calls a0 (⟨#[32]⟩ : ByteArray) false _ A11.out).mono ?_); rintro e w35 ⟨rfl, hb⟩; have n0_ := Aside0.mk (below_step (by repeat (with_reducible first | exact HB.out | apply below_alloc | apply pw_below_drewN | apply below_drew1)) hb); clear HB; have HB := n0_; clear n0_; (try clear hb); (try clear hb2); (try clear hk); (try clear hi)))
      go_ret
      exact ⟨by first | rfl | (simp [errW_none, errW_some] <;> rfl) | (simp [*, errW_none, errW_some] <;> rfl), by repeat (with_reducible first | exact HB.out | apply below_alloc | apply pw_below_drewN | apply below_drew1)⟩
   ·
    replace c10 := Bool.eq_false_iff.mpr c10
    subst c10
    have H1 : (if x3_1 = true then (if 1 + a0.size ≤ 9223372036854775807 then (if ((⟨#[32]⟩ : ByteArray) ++ a0).size + 1 ≤ 9223372036854775807 then (some (((⟨#[32]⟩ : ByteArray) ++ a0) ++ (⟨#[32]⟩ : ByteArray))) else (none)) else (none)) else (some a0)) = some r := by rw [if_neg (show ¬ (false = true) by decide)] at H; exact H
    clear H
    have H := H1
    clear H1
    by_cases c36 : x3_1 = true
    ·
     subst c36
     have H1 : (if 1 + a0.size ≤ 9223372036854775807 then (if ((⟨#[32]⟩ : ByteArray) ++ a0).size + 1 ≤ 9223372036854775807 then (some (((⟨#[32]⟩ : ByteArray) ++ a0) ++ (⟨#[32]⟩ : ByteArray))) else (none)) else (none)) = some r := by rw [if_pos rfl] at H; exact H
     clear H
     have H := H1
     clear H1
     by_cases c37 : 1 + a0.size ≤ 9223372036854775807
     ·
      rw [if_pos c37] at H
      have c37b0 := eq_true c37
      have c37b1 : decide (1 + a0.size ≤ 9223372036854775807) = true := decide_eq_true c37
      try have c37b2 : (9223372036854775807 < 1 + a0.size) = False := eq_false (Nat.not_lt.2 c37)
      by_cases c38 : ((⟨#[32]⟩ : ByteArray) ++ a0).size + 1 ≤ 9223372036854775807
      ·
       rw [if_pos c38] at H
       have c38b0 := eq_true c38
       have c38b1 : decide (((⟨#[32]⟩ : ByteArray) ++ a0).size + 1 ≤ 9223372036854775807) = true := decide_eq_true c38
       try have c38b2 : (9223372036854775807 < ((⟨#[32]⟩ : ByteArray) ++ a0).size + 1) = False := eq_false (Nat.not_lt.2 c38)
       (try (have c38s := c38; simp only [ByteArray.size_append, lit_size, List.length_cons, List.length_nil, Nat.zero_add, Nat.reduceAdd] at c38s; have c38s0 := eq_true c38s; have c38s1 := decide_eq_true c38s; have c38s2 := eq_false (Nat.not_lt.2 c38s); clear c38s))
       obtain rfl := Option.some.inj H
       go_wp2_with (first | ((with_reducible refine gate_callee (f := 112) rfl ?_); refine goesL_ (some 12) rfl rfl Tryd.func112 (by kernel_rfl) rfl #[.string a0, .string (⟨#[32]⟩ : ByteArray)] rfl (by (try simp only [List.map_toArray, List.map_cons, List.map_nil]); first | done | rfl | (simp only [List.length_drop, List.length_take]; rfl)) ?_; (with_reducible refine (strings_HasPrefix.calls a0 (⟨#[32]⟩ : ByteArray) false _ A9.out).mono ?_); rintro e w39 ⟨rfl, hb⟩; refine ⟨_, rfl, ?_⟩; have n0_ := Aside0.mk (below_step (by repeat (with_reducible first | exact HB.out | apply below_alloc | apply pw_below_drewN | apply below_drew1)) hb); clear HB; have HB := n0_; clear n0_; (try clear hb); (try clear hb2); (try clear hk); (try clear hi)))
       go_ret
       exact ⟨by first | rfl | (simp [errW_none, errW_some] <;> rfl) | (simp [*, errW_none, errW_some] <;> rfl), by repeat (with_reducible first | exact HB.out | apply below_alloc | apply pw_below_drewN | apply below_drew1)⟩
      ·
       rw [if_neg c38] at H
       exact absurd H (by simp)
     ·
      rw [if_neg c37] at H
      exact absurd H (by simp)
    ·
     replace c36 := Bool.eq_false_iff.mpr c36
     subst c36
     have H1 : (some a0) = some r := by rw [if_neg (show ¬ (false = true) by decide)] at H; exact H
     clear H
     have H := H1
     clear H1
     obtain rfl := Option.some.inj H
     go_wp2_with (first | ((with_reducible refine gate_callee (f := 112) rfl ?_); refine goesL_ (some 12) rfl rfl Tryd.func112 (by kernel_rfl) rfl #[.string a0, .string (⟨#[32]⟩ : ByteArray)] rfl (by (try simp only [List.map_toArray, List.map_cons, List.map_nil]); first | done | rfl | (simp only [List.length_drop, List.length_take]; rfl)) ?_; (with_reducible refine (strings_HasPrefix.calls a0 (⟨#[32]⟩ : ByteArray) false _ A9.out).mono ?_); rintro e w40 ⟨rfl, hb⟩; refine ⟨_, rfl, ?_⟩; have n0_ := Aside0.mk (below_step (by repeat (with_reducible first | exact HB.out | apply below_alloc | apply pw_below_drewN | apply below_drew1)) hb); clear HB; have HB := n0_; clear n0_; (try clear hb); (try clear hb2); (try clear hk); (try clear hi)))
     go_ret
     exact ⟨by first | rfl | (simp [errW_none, errW_some] <;> rfl) | (simp [*, errW_none, errW_some] <;> rfl), by repeat (with_reducible first | exact HB.out | apply below_alloc | apply pw_below_drewN | apply below_drew1)⟩

/-! ### lines_Trim: function 48 -/
def lines_Trim.f (a0 : ByteArray) : Option (ByteArray) := (strings_Trim.f a0 (⟨#[32, 9]⟩ : ByteArray)).bind fun t168 => (some t168)
set_option maxHeartbeats 8000000 in
set_option maxRecDepth 100000 in
theorem lines_Trim.calls (a0 : ByteArray) (r : ByteArray) (w : World) (h : lines_Trim.f a0 = some r) :
  Calls Tryd.prog 48 #[.string a0] w fun e w' => e = .returned (.string r) ∧ Below w.heap.size w w' := by
 have HB := Aside0.mk (Below.refl w.heap.size w)
 have H : ((strings_Trim.f a0 (⟨#[32, 9]⟩ : ByteArray)).bind fun t168 => (some t168)) = some r := h
 clear h
 replace H := Option.bind_eq_some_iff.mp H
 obtain ⟨t168, A20, H⟩ := H
 replace H : (some t168) = some r := H
 have A2 := Aside0.mk A20
 clear A20
 obtain rfl := Option.some.inj H
 go_enter Tryd.func48, Tryd.ntmps48
 go_wp2_with (first | ((with_reducible refine gate_callee (f := 75) rfl ?_); refine goesL_ (some 4) rfl rfl Tryd.func75 (by kernel_rfl) rfl #[.string a0, .string (⟨#[32, 9]⟩ : ByteArray)] rfl (by (try simp only [List.map_toArray, List.map_cons, List.map_nil]); first | done | rfl | (simp only [List.length_drop, List.length_take]; rfl)) ?_; (with_reducible refine (strings_Trim.calls a0 (⟨#[32, 9]⟩ : ByteArray) t168 _ A2.out).mono ?_); rintro e w3 ⟨rfl, hb⟩; refine ⟨_, rfl, ?_⟩; have n0_ := Aside0.mk (below_step (by repeat (with_reducible first | exact HB.out | apply below_alloc | apply pw_below_drewN | apply below_drew1)) hb); clear HB; have HB := n0_; clear n0_; (try clear hb); (try clear hb2); (try clear hk); (try clear hi)))
 go_ret
 exact ⟨by first | rfl | (simp [errW_none, errW_some] <;> rfl) | (simp [*, errW_none, errW_some] <;> rfl), by repeat (with_reducible first | exact HB.out | apply below_alloc | apply pw_below_drewN | apply below_drew1)⟩

end Go.Proofs.YtmfffpfenhgjbaaDoor.X
