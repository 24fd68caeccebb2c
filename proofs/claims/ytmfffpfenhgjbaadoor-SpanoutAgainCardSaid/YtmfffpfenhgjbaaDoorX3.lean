-- Written by a program of this session (wip/mkprint.py over the kit's print) out of the translation; Lean checks it.
import Derived.Test.YtmfffpfenhgjbaaDoorX0
import Derived.Test.YtmfffpfenhgjbaaDoorX2
namespace Go.Proofs.YtmfffpfenhgjbaaDoor.X
open Go.RowKit Go.Proofs.YtmfffpfenhgjbaaDoor.G Go.Proofs.YtmfffpfenhgjbaaDoorW.PrintWords Go.Proofs.YtmfffpfenhgjbaaDoorW.PrintLast Go.Proofs.YtmfffpfenhgjbaaDoorW.PrintMore
attribute [local go_sem] max2_int min2_int max_two min_two max_three min_three max_four min_four   -- for this text's walks alone
set_option linter.unusedVariables false
set_option linter.unusedSimpArgs false

/-! ### emendationref01_Next: function 76 -/
mutual
def emendationref01_Next.j0 : Nat → ByteArray → Int → Bool → Option (Int × Int)
 | 0, _, _, _ => none
 | k + 1, x0, x1, x17 => if x17 = true then (some (0, 0)) else (if 0 ≤ x1 then (if x1 < (x0.size : Int) then (if (wrap64 (bt x0 x1)) < 128 then (some (wrap64 (bt x0 x1), 1)) else (if (wrap64 (bt x0 x1)) ≥ 194 then (emendationref01_Next.j1 k x0 x1 (wrap64 (bt x0 x1)) 0 0 (decide ((wrap64 (bt x0 x1)) ≤ 223))) else (emendationref01_Next.j1 k x0 x1 (wrap64 (bt x0 x1)) 0 0 false))) else (none)) else (none))
def emendationref01_Next.j1 : Nat → ByteArray → Int → Int → Int → Int → Bool → Option (Int × Int)
 | 0, _, _, _, _, _, _ => none
 | k + 1, x0, x1, x6, x7, x8, x30 => if x30 = true then (emendationref01_Next.j2 k x0 x1 x6 2 (wrap64 (x6 - 192))) else (emendationref01_Next.j2 k x0 x1 x6 x7 x8)
def emendationref01_Next.j2 : Nat → ByteArray → Int → Int → Int → Int → Option (Int × Int)
 | 0, _, _, _, _, _ => none
 | k + 1, x0, x1, x6, x7, x8 => if x6 ≥ 224 then (emendationref01_Next.j3 k x0 x1 x6 x7 x8 (decide (x6 ≤ 239))) else (emendationref01_Next.j3 k x0 x1 x6 x7 x8 false)
def emendationref01_Next.j3 : Nat → ByteArray → Int → Int → Int → Int → Bool → Option (Int × Int)
 | 0, _, _, _, _, _, _ => none
 | k + 1, x0, x1, x6, x7, x8, x38 => if x38 = true then (emendationref01_Next.j4 k x0 x1 x6 3 (wrap64 (x6 - 224))) else (emendationref01_Next.j4 k x0 x1 x6 x7 x8)
def emendationref01_Next.j4 : Nat → ByteArray → Int → Int → Int → Int → Option (Int × Int)
 | 0, _, _, _, _, _ => none
 | k + 1, x0, x1, x6, x7, x8 => if x6 ≥ 240 then (emendationref01_Next.j5 k x0 x1 x6 x7 x8 (decide (x6 ≤ 244))) else (emendationref01_Next.j5 k x0 x1 x6 x7 x8 false)
def emendationref01_Next.j5 : Nat → ByteArray → Int → Int → Int → Int → Bool → Option (Int × Int)
 | 0, _, _, _, _, _, _ => none
 | k + 1, x0, x1, x6, x7, x8, x46 => if x46 = true then (emendationref01_Next.j6 k x0 x1 4 (wrap64 (x6 - 240))) else (emendationref01_Next.j6 k x0 x1 x7 x8)
def emendationref01_Next.j6 : Nat → ByteArray → Int → Int → Int → Option (Int × Int)
 | 0, _, _, _, _ => none
 | k + 1, x0, x1, x7, x8 => if x7 = 0 then (emendationref01_Next.j7 k x0 x1 x7 x8 true) else (emendationref01_Next.j7 k x0 x1 x7 x8 (decide ((wrap64 (x1 + x7)) > (x0.size : Int))))
def emendationref01_Next.j7 : Nat → ByteArray → Int → Int → Int → Bool → Option (Int × Int)
 | 0, _, _, _, _, _ => none
 | k + 1, x0, x1, x7, x8, x58 => if x58 = true then (some (0, 0)) else (emendationref01_Next.l0 k x0 x1 x7 x8 1)
def emendationref01_Next.l0 : Nat → ByteArray → Int → Int → Int → Int → Option (Int × Int)
 | 0, _, _, _, _, _ => none
 | k + 1, x0, x1, x7, x8, x9 => if x9 < x7 then (if 0 ≤ (wrap64 (x1 + x9)) then (if (wrap64 (x1 + x9)) < (x0.size : Int) then ((emendationref01_more.f (bt x0 (wrap64 (x1 + x9)))).bind fun t112 => (if t112 = true then (emendationref01_Next.l0 k x0 x1 x7 (wrap64 ((wrap64 ((wrap64 (x8 * 64)) + (wrap64 (bt x0 (wrap64 (x1 + x9)))))) - 128)) (wrap64 (x9 + 1))) else (some (0, 0)))) else (none)) else (none)) else (if x7 = 3 then (if x8 < 2048 then (some (0, 0)) else (if x8 ≥ 55296 then (if x8 ≤ 57343 then (some (0, 0)) else (if x7 = 4 then (if x8 < 65536 then (some (0, 0)) else (if x8 > 1114111 then (some (0, 0)) else (some (x8, x7)))) else (some (x8, x7)))) else (if x7 = 4 then (if x8 < 65536 then (some (0, 0)) else (if x8 > 1114111 then (some (0, 0)) else (some (x8, x7)))) else (some (x8, x7))))) else (if x7 = 4 then (if x8 < 65536 then (some (0, 0)) else (if x8 > 1114111 then (some (0, 0)) else (some (x8, x7)))) else (some (x8, x7))))
end
def emendationref01_Next.f (k : Nat) (a0 : ByteArray) (a1 : Int) : Option (Int × Int) := if a1 < 0 then (emendationref01_Next.j0 k a0 a1 true) else (emendationref01_Next.j0 k a0 a1 (decide (a1 ≥ (a0.size : Int))))
set_option maxHeartbeats 8000000 in
set_option maxRecDepth 100000 in
theorem emendationref01_Next.calls (k : Nat) (a0 : ByteArray) (a1 : Int) (r1 : Int) (r2 : Int) (w : World) (h : emendationref01_Next.f k a0 a1 = some (r1, r2)) :
  Calls Tryd.prog 76 #[.string a0, .int .i64 a1] w fun e w' => e = .returned (.tuple #[.int .i64 r1, .int .i64 r2]) ∧ Drawn0 w w' := by
 have H : (if a1 < 0 then (emendationref01_Next.j0 k a0 a1 true) else (emendationref01_Next.j0 k a0 a1 (decide (a1 ≥ (a0.size : Int))))) = some (r1, r2) := h
 clear h
 have HC3 := Aside0.mk H
 clear H
 go_enter Tryd.func76, Tryd.ntmps76
 go_upto_region 1 with (fail)
 go_cut [17] (fun v17 wc => ∃ (kq : Nat) (x17_2 : Bool), v17 = .bool x17_2 ∧ Aside0 (emendationref01_Next.j0 kq a0 a1 x17_2 = some (r1, r2)) ∧ Aside0 (kq ≤ k) ∧ Drawn0 w wc)
 case first =>
  have H := HC3.out
  clear HC3
  by_cases c4 : a1 < 0
  ·
   rw [if_pos c4] at H
   have c4b0 : decide (a1 < 0) = true := decide_eq_true c4
   clear c4
   (first | rw [c4b0] | (simp only [i64_w, i32_w]; rw [c4b0]) | skip)
   have H' := Aside0.mk H
   clear H
   go_wp2
   go_meet
   case rel => exact ⟨_, (true), (by first | rfl | (simp; done) | (simp [*]; done) | (simp [bne, beq_nil_E]; done)), H', ⟨by first | omega | exact Nat.le_refl _⟩, by repeat (first | exact Drawn0.refl _ | apply Drawn0.step)⟩
  ·
   rw [if_neg c4] at H
   have c4b0 : decide (a1 < 0) = false := decide_eq_false c4
   clear c4
   (first | rw [c4b0] | (simp only [i64_w, i32_w]; rw [c4b0]) | skip)
   have H' := Aside0.mk H
   clear H
   go_wp2
   go_meet
   case rel => exact ⟨_, (decide (a1 ≥ (a0.size : Int))), (by first | rfl | (simp; done) | (simp [*]; done) | (simp [bne, beq_nil_E]; done)), H', ⟨by first | omega | exact Nat.le_refl _⟩, by repeat (first | exact Drawn0.refl _ | apply Drawn0.step)⟩
 case rest =>
  clear HC3
  try clear p2
  try clear c4
  try clear c4b0
  obtain ⟨kq, x17_2, rfl, HA, HJ2, ⟨mc2, rfl⟩⟩ := hcut
  cases kq with
  | zero => exact absurd HA.out (by simp [emendationref01_Next.j0])
  | succ kj2 =>
   have H := HA.out
   clear HA
   simp only [emendationref01_Next.j0] at H
   by_cases c5 : x17_2 = true
   ·
    subst c5
    have H1 : (some (0, 0)) = some (r1, r2) := by rw [if_pos rfl] at H; exact H
    clear H
    have H := H1
    clear H1
    simp only [Option.some.injEq, Prod.mk.injEq] at H
    obtain ⟨rfl, rfl⟩ := H
    go_wp2
    go_ret2
    exact ⟨by first | rfl | (simp; done) | (simp [*]; done) | (simp [bne, beq_nil_E]; done), by repeat (first | exact Drawn0.refl _ | apply Drawn0.step)⟩
   ·
    replace c5 := Bool.eq_false_iff.mpr c5
    subst c5
    have H1 : (if 0 ≤ a1 then (if a1 < (a0.size : Int) then (if (wrap64 (bt a0 a1)) < 128 then (some (wrap64 (bt a0 a1), 1)) else (if (wrap64 (bt a0 a1)) ≥ 194 then (emendationref01_Next.j1 kj2 a0 a1 (wrap64 (bt a0 a1)) 0 0 (decide ((wrap64 (bt a0 a1)) ≤ 223))) else (emendationref01_Next.j1 kj2 a0 a1 (wrap64 (bt a0 a1)) 0 0 false))) else (none)) else (none)) = some (r1, r2) := by rw [if_neg (show ¬ (false = true) by decide)] at H; exact H
    clear H
    have H := H1
    clear H1
    by_cases c6 : 0 ≤ a1
    ·
     rw [if_pos c6] at H
     have c6b0 : decide (0 ≤ a1) = true := decide_eq_true c6
     clear c6
     by_cases c7 : a1 < (a0.size : Int)
     ·
      rw [if_pos c7] at H
      have c7b0 : decide (a1 < (a0.size : Int)) = true := decide_eq_true c7
      clear c7
      by_cases c9 : (wrap64 (bt a0 a1)) < 128
      ·
       rw [if_pos c9] at H
       have c9b0 : decide ((wrap64 (bt a0 a1)) < 128) = true := decide_eq_true c9
       clear c9
       simp only [Option.some.injEq, Prod.mk.injEq] at H
       obtain ⟨rfl, rfl⟩ := H
       have p8 : 0 ≤ (a1 : Int) := of_decide_eq_true (by first | (with_reducible assumption) | assumption)
       have q8 : a1 < (a0.size : Int) := of_decide_eq_true (by first | (with_reducible assumption) | assumption)
       have hx8 := bt_at a0 a1
       replace p8 := eq_true p8
       replace q8 := eq_true q8
       go_wp2
       go_ret2
       exact ⟨by first | rfl | (simp; done) | (simp [*]; done) | (simp [bne, beq_nil_E]; done), by repeat (first | exact Drawn0.refl _ | apply Drawn0.step)⟩
      ·
       rw [if_neg c9] at H
       have c9b0 : decide ((wrap64 (bt a0 a1)) < 128) = false := decide_eq_false c9
       clear c9
       have HC10 := Aside0.mk H
       clear H
       have p8 : 0 ≤ (a1 : Int) := of_decide_eq_true (by first | (with_reducible assumption) | assumption)
       have q8 : a1 < (a0.size : Int) := of_decide_eq_true (by first | (with_reducible assumption) | assumption)
       have hx8 := bt_at a0 a1
       replace p8 := eq_true p8
       replace q8 := eq_true q8
       go_upto_region 7 with (fail)
       go_cut [30] (fun v30 wc => ∃ (kq : Nat) (x30_9 : Bool), v30 = .bool x30_9 ∧ Aside0 (emendationref01_Next.j1 kq a0 a1 (wrap64 (bt a0 a1)) 0 0 x30_9 = some (r1, r2)) ∧ Aside0 (kq ≤ kj2) ∧ Drawn0 w wc)
       case first =>
        have H := HC10.out
        clear HC10
        by_cases c11 : (wrap64 (bt a0 a1)) ≥ 194
        ·
         rw [if_pos c11] at H
         have c11b0 : decide (194 ≤ (wrap64 (bt a0 a1))) = true := decide_eq_true c11
         clear c11
         (first | rw [c11b0] | (simp only [i64_w, i32_w]; rw [c11b0]) | skip)
         have H' := Aside0.mk H
         clear H
         go_wp2
         go_meet
         case rel => exact ⟨_, (decide ((wrap64 (bt a0 a1)) ≤ 223)), (by first | rfl | (simp; done) | (simp [*]; done) | (simp [bne, beq_nil_E]; done)), H', ⟨by have := HJ2.out; first | omega | exact Nat.le_refl _⟩, by repeat (first | exact Drawn0.refl _ | apply Drawn0.step)⟩
        ·
         rw [if_neg c11] at H
         have c11b0 : decide (194 ≤ (wrap64 (bt a0 a1))) = false := decide_eq_false c11
         clear c11
         (first | rw [c11b0] | (simp only [i64_w, i32_w]; rw [c11b0]) | skip)
         have H' := Aside0.mk H
         clear H
         go_wp2
         go_meet
         case rel => exact ⟨_, (false), (by first | rfl | (simp; done) | (simp [*]; done) | (simp [bne, beq_nil_E]; done)), H', ⟨by have := HJ2.out; first | omega | exact Nat.le_refl _⟩, by repeat (first | exact Drawn0.refl _ | apply Drawn0.step)⟩
       case rest =>
        clear HC10
        try clear c1
        try clear c2
        try clear p2
        try clear c4
        try clear c4b0
        try clear c5
        try clear c6
        try clear c6b0
        try clear p6
        try clear c7
        try clear c7b0
        try clear p8
        try clear q8
        try clear hx8
        try clear c9
        try clear c9b0
        try clear c11
        try clear c11b0
        try clear p2
        try clear p8
        try clear q8
        obtain ⟨kq, x30_9, rfl, HA, HJ9, ⟨mc9, rfl⟩⟩ := hcut
        cases kq with
        | zero => exact absurd HA.out (by simp [emendationref01_Next.j1])
        | succ kj9 =>
         have H := HA.out
         clear HA
         simp only [emendationref01_Next.j1] at H
         have HC12 := Aside0.mk H
         clear H
         go_upto_if 30 with (fail)
         go_cut [7, 8] (fun v7 v8 wc => ∃ (kq : Nat) (x7_11 : Int) (x8_11 : Int), v7 = .int .i64 x7_11 ∧ v8 = .int .i64 x8_11 ∧ Aside0 (emendationref01_Next.j2 kq a0 a1 (wrap64 (bt a0 a1)) x7_11 x8_11 = some (r1, r2)) ∧ Aside0 (kq ≤ kj9) ∧ Drawn0 w wc)
         case first =>
          have H := HC12.out
          clear HC12
          by_cases c13 : x30_9 = true
          ·
           subst c13
           have H1 : (emendationref01_Next.j2 kj9 a0 a1 (wrap64 (bt a0 a1)) 2 (wrap64 ((wrap64 (bt a0 a1)) - 192))) = some (r1, r2) := by rw [if_pos rfl] at H; exact H
           clear H
           have H := H1
           clear H1
           have H' := Aside0.mk H
           clear H
           go_wp2
           go_meet
           case rel => exact ⟨_, (2), (wrap64 ((wrap64 (bt a0 a1)) - 192)), (by first | rfl | (simp; done) | (simp [*]; done) | (simp [bne, beq_nil_E]; done)), (by first | rfl | (simp; done) | (simp [*]; done) | (simp [bne, beq_nil_E]; done)), H', ⟨by have := HJ2.out; have := HJ9.out; first | omega | exact Nat.le_refl _⟩, by repeat (first | exact Drawn0.refl _ | apply Drawn0.step)⟩
          ·
           replace c13 := Bool.eq_false_iff.mpr c13
           subst c13
           have H1 : (emendationref01_Next.j2 kj9 a0 a1 (wrap64 (bt a0 a1)) 0 0) = some (r1, r2) := by rw [if_neg (show ¬ (false = true) by decide)] at H; exact H
           clear H
           have H := H1
           clear H1
           have H' := Aside0.mk H
           clear H
           go_wp2
           go_meet
           case rel => exact ⟨_, (0), (0), (by first | rfl | (simp; done) | (simp [*]; done) | (simp [bne, beq_nil_E]; done)), (by first | rfl | (simp; done) | (simp [*]; done) | (simp [bne, beq_nil_E]; done)), H', ⟨by have := HJ2.out; have := HJ9.out; first | omega | exact Nat.le_refl _⟩, by repeat (first | exact Drawn0.refl _ | apply Drawn0.step)⟩
         case rest =>
          clear HC12
          try clear c1
          try clear c2
          try clear p2
          try clear c4
          try clear c4b0
          try clear c5
          try clear c6
          try clear c6b0
          try clear p6
          try clear c7
          try clear c7b0
          try clear p8
          try clear q8
          try clear hx8
          try clear c9
          try clear c9b0
          try clear c11
          try clear c11b0
          try clear c13
          try clear p2
          try clear p6
          try clear p8
          try clear q8
          obtain ⟨kq, x7_11, x8_11, rfl, rfl, HA, HJ11, ⟨mc11, rfl⟩⟩ := hcut
          cases kq with
          | zero => exact absurd HA.out (by simp [emendationref01_Next.j2])
          | succ kj11 =>
           have H := HA.out
           clear HA
           simp only [emendationref01_Next.j2] at H
           have HC14 := Aside0.mk H
           clear H
           go_upto_region 9 with (fail)
           go_cut [38] (fun v38 wc => ∃ (kq : Nat) (x38_13 : Bool), v38 = .bool x38_13 ∧ Aside0 (emendationref01_Next.j3 kq a0 a1 (wrap64 (bt a0 a1)) x7_11 x8_11 x38_13 = some (r1, r2)) ∧ Aside0 (kq ≤ kj11) ∧ Drawn0 w wc)
           case first =>
            have H := HC14.out
            clear HC14
            by_cases c15 : (wrap64 (bt a0 a1)) ≥ 224
            ·
             rw [if_pos c15] at H
             have c15b0 : decide (224 ≤ (wrap64 (bt a0 a1))) = true := decide_eq_true c15
             clear c15
             (first | rw [c15b0] | (simp only [i64_w, i32_w]; rw [c15b0]) | skip)
             have H' := Aside0.mk H
             clear H
             go_wp2
             go_meet
             case rel => exact ⟨_, (decide ((wrap64 (bt a0 a1)) ≤ 239)), (by first | rfl | (simp; done) | (simp [*]; done) | (simp [bne, beq_nil_E]; done)), H', ⟨by have := HJ2.out; have := HJ9.out; have := HJ11.out; first | omega | exact Nat.le_refl _⟩, by repeat (first | exact Drawn0.refl _ | apply Drawn0.step)⟩
            ·
             rw [if_neg c15] at H
             have c15b0 : decide (224 ≤ (wrap64 (bt a0 a1))) = false := decide_eq_false c15
             clear c15
             (first | rw [c15b0] | (simp only [i64_w, i32_w]; rw [c15b0]) | skip)
             have H' := Aside0.mk H
             clear H
             go_wp2
             go_meet
             case rel => exact ⟨_, (false), (by first | rfl | (simp; done) | (simp [*]; done) | (simp [bne, beq_nil_E]; done)), H', ⟨by have := HJ2.out; have := HJ9.out; have := HJ11.out; first | omega | exact Nat.le_refl _⟩, by repeat (first | exact Drawn0.refl _ | apply Drawn0.step)⟩
           case rest =>
            clear HC14
            try clear c1
            try clear c2
            try clear p2
            try clear c4
            try clear c4b0
            try clear c5
            try clear c6
            try clear c6b0
            try clear p6
            try clear c7
            try clear c7b0
            try clear p8
            try clear q8
            try clear hx8
            try clear c9
            try clear c9b0
            try clear c11
            try clear c11b0
            try clear c13
            try clear c15
            try clear c15b0
            try clear p2
            try clear p6
            try clear p8
            try clear q8
            obtain ⟨kq, x38_13, rfl, HA, HJ13, ⟨mc13, rfl⟩⟩ := hcut
            cases kq with
            | zero => exact absurd HA.out (by simp [emendationref01_Next.j3])
            | succ kj13 =>
             have H := HA.out
             clear HA
             simp only [emendationref01_Next.j3] at H
             have HC16 := Aside0.mk H
             clear H
             go_upto_if 38 with (fail)
             go_cut [7, 8] (fun v7 v8 wc => ∃ (kq : Nat) (x7_15 : Int) (x8_15 : Int), v7 = .int .i64 x7_15 ∧ v8 = .int .i64 x8_15 ∧ Aside0 (emendationref01_Next.j4 kq a0 a1 (wrap64 (bt a0 a1)) x7_15 x8_15 = some (r1, r2)) ∧ Aside0 (kq ≤ kj13) ∧ Drawn0 w wc)
             case first =>
              have H := HC16.out
              clear HC16
              by_cases c17 : x38_13 = true
              ·
               subst c17
               have H1 : (emendationref01_Next.j4 kj13 a0 a1 (wrap64 (bt a0 a1)) 3 (wrap64 ((wrap64 (bt a0 a1)) - 224))) = some (r1, r2) := by rw [if_pos rfl] at H; exact H
               clear H
               have H := H1
               clear H1
               have H' := Aside0.mk H
               clear H
               go_wp2
               go_meet
               case rel => exact ⟨_, (3), (wrap64 ((wrap64 (bt a0 a1)) - 224)), (by first | rfl | (simp; done) | (simp [*]; done) | (simp [bne, beq_nil_E]; done)), (by first | rfl | (simp; done) | (simp [*]; done) | (simp [bne, beq_nil_E]; done)), H', ⟨by have := HJ2.out; have := HJ9.out; have := HJ11.out; have := HJ13.out; first | omega | exact Nat.le_refl _⟩, by repeat (first | exact Drawn0.refl _ | apply Drawn0.step)⟩
              ·
               replace c17 := Bool.eq_false_iff.mpr c17
               subst c17
               have H1 : (emendationref01_Next.j4 kj13 a0 a1 (wrap64 (bt a0 a1)) x7_11 x8_11) = some (r1, r2) := by rw [if_neg (show ¬ (false = true) by decide)] at H; exact H
               clear H
               have H := H1
               clear H1
               have H' := Aside0.mk H
               clear H
               go_wp2
               go_meet
               case rel => exact ⟨_, (x7_11), (x8_11), (by first | rfl | (simp; done) | (simp [*]; done) | (simp [bne, beq_nil_E]; done)), (by first | rfl | (simp; done) | (simp [*]; done) | (simp [bne, beq_nil_E]; done)), H', ⟨by have := HJ2.out; have := HJ9.out; have := HJ11.out; have := HJ13.out; first | omega | exact Nat.le_refl _⟩, by repeat (first | exact Drawn0.refl _ | apply Drawn0.step)⟩
             case rest =>
              clear HC16
              try clear c1
              try clear c2
              try clear p2
              try clear c4
              try clear c4b0
              try clear c5
              try clear c6
              try clear c6b0
              try clear p6
              try clear c7
              try clear c7b0
              try clear p8
              try clear q8
              try clear hx8
              try clear c9
              try clear c9b0
              try clear c11
              try clear c11b0
              try clear c13
              try clear c15
              try clear c15b0
              try clear c17
              try clear p2
              try clear p6
              try clear p8
              try clear q8
              obtain ⟨kq, x7_15, x8_15, rfl, rfl, HA, HJ15, ⟨mc15, rfl⟩⟩ := hcut
              cases kq with
              | zero => exact absurd HA.out (by simp [emendationref01_Next.j4])
              | succ kj15 =>
               have H := HA.out
               clear HA
               simp only [emendationref01_Next.j4] at H
               have HC18 := Aside0.mk H
               clear H
               go_upto_region 11 with (fail)
               go_cut [46] (fun v46 wc => ∃ (kq : Nat) (x46_17 : Bool), v46 = .bool x46_17 ∧ Aside0 (emendationref01_Next.j5 kq a0 a1 (wrap64 (bt a0 a1)) x7_15 x8_15 x46_17 = some (r1, r2)) ∧ Aside0 (kq ≤ kj15) ∧ Drawn0 w wc)
               case first =>
                have H := HC18.out
                clear HC18
                by_cases c19 : (wrap64 (bt a0 a1)) ≥ 240
                ·
                 rw [if_pos c19] at H
                 have c19b0 : decide (240 ≤ (wrap64 (bt a0 a1))) = true := decide_eq_true c19
                 clear c19
                 (first | rw [c19b0] | (simp only [i64_w, i32_w]; rw [c19b0]) | skip)
                 have H' := Aside0.mk H
                 clear H
                 go_wp2
                 go_meet
                 case rel => exact ⟨_, (decide ((wrap64 (bt a0 a1)) ≤ 244)), (by first | rfl | (simp; done) | (simp [*]; done) | (simp [bne, beq_nil_E]; done)), H', ⟨by have := HJ2.out; have := HJ9.out; have := HJ11.out; have := HJ13.out; have := HJ15.out; first | omega | exact Nat.le_refl _⟩, by repeat (first | exact Drawn0.refl _ | apply Drawn0.step)⟩
                ·
                 rw [if_neg c19] at H
                 have c19b0 : decide (240 ≤ (wrap64 (bt a0 a1))) = false := decide_eq_false c19
                 clear c19
                 (first | rw [c19b0] | (simp only [i64_w, i32_w]; rw [c19b0]) | skip)
                 have H' := Aside0.mk H
                 clear H
                 go_wp2
                 go_meet
                 case rel => exact ⟨_, (false), (by first | rfl | (simp; done) | (simp [*]; done) | (simp [bne, beq_nil_E]; done)), H', ⟨by have := HJ2.out; have := HJ9.out; have := HJ11.out; have := HJ13.out; have := HJ15.out; first | omega | exact Nat.le_refl _⟩, by repeat (first | exact Drawn0.refl _ | apply Drawn0.step)⟩
               case rest =>
                clear HC18
                try clear c1
                try clear c2
                try clear p2
                try clear c4
                try clear c4b0
                try clear c5
                try clear c6
                try clear c6b0
                try clear p6
                try clear c7
                try clear c7b0
                try clear p8
                try clear q8
                try clear hx8
                try clear c9
                try clear c9b0
                try clear c11
                try clear c11b0
                try clear c13
                try clear c15
                try clear c15b0
                try clear c17
                try clear c19
                try clear c19b0
                try clear p2
                try clear p6
                try clear p8
                try clear q8
                obtain ⟨kq, x46_17, rfl, HA, HJ17, ⟨mc17, rfl⟩⟩ := hcut
                cases kq with
                | zero => exact absurd HA.out (by simp [emendationref01_Next.j5])
                | succ kj17 =>
                 have H := HA.out
                 clear HA
                 simp only [emendationref01_Next.j5] at H
                 have HC20 := Aside0.mk H
                 clear H
                 go_upto_if 46 with (fail)
                 go_cut [7, 8] (fun v7 v8 wc => ∃ (kq : Nat) (x7_19 : Int) (x8_19 : Int), v7 = .int .i64 x7_19 ∧ v8 = .int .i64 x8_19 ∧ Aside0 (emendationref01_Next.j6 kq a0 a1 x7_19 x8_19 = some (r1, r2)) ∧ Aside0 (kq ≤ kj17) ∧ Drawn0 w wc)
                 case first =>
                  have H := HC20.out
                  clear HC20
                  by_cases c21 : x46_17 = true
                  ·
                   subst c21
                   have H1 : (emendationref01_Next.j6 kj17 a0 a1 4 (wrap64 ((wrap64 (bt a0 a1)) - 240))) = some (r1, r2) := by rw [if_pos rfl] at H; exact H
                   clear H
                   have H := H1
                   clear H1
                   have H' := Aside0.mk H
                   clear H
                   go_wp2
                   go_meet
                   case rel => exact ⟨_, (4), (wrap64 ((wrap64 (bt a0 a1)) - 240)), (by first | rfl | (simp; done) | (simp [*]; done) | (simp [bne, beq_nil_E]; done)), (by first | rfl | (simp; done) | (simp [*]; done) | (simp [bne, beq_nil_E]; done)), H', ⟨by have := HJ2.out; have := HJ9.out; have := HJ11.out; have := HJ13.out; have := HJ15.out; have := HJ17.out; first | omega | exact Nat.le_refl _⟩, by repeat (first | exact Drawn0.refl _ | apply Drawn0.step)⟩
                  ·
                   replace c21 := Bool.eq_false_iff.mpr c21
                   subst c21
                   have H1 : (emendationref01_Next.j6 kj17 a0 a1 x7_15 x8_15) = some (r1, r2) := by rw [if_neg (show ¬ (false = true) by decide)] at H; exact H
                   clear H
                   have H := H1
                   clear H1
                   have H' := Aside0.mk H
                   clear H
                   go_wp2
                   go_meet
                   case rel => exact ⟨_, (x7_15), (x8_15), (by first | rfl | (simp; done) | (simp [*]; done) | (simp [bne, beq_nil_E]; done)), (by first | rfl | (simp; done) | (simp [*]; done) | (simp [bne, beq_nil_E]; done)), H', ⟨by have := HJ2.out; have := HJ9.out; have := HJ11.out; have := HJ13.out; have := HJ15.out; have := HJ17.out; first | omega | exact Nat.le_refl _⟩, by repeat (first | exact Drawn0.refl _ | apply Drawn0.step)⟩
                 case rest =>
                  clear HC20
                  try clear c1
                  try clear c2
                  try clear p2
                  try clear c4
                  try clear c4b0
                  try clear c5
                  try clear c6
                  try clear c6b0
                  try clear p6
                  try clear c7
                  try clear c7b0
                  try clear p8
                  try clear q8
                  try clear hx8
                  try clear c9
                  try clear c9b0
                  try clear c11
                  try clear c11b0
                  try clear c13
                  try clear c15
                  try clear c15b0
                  try clear c17
                  try clear c19
                  try clear c19b0
                  try clear c21
                  try clear p2
                  try clear p6
                  try clear p8
                  try clear q8
                  obtain ⟨kq, x7_19, x8_19, rfl, rfl, HA, HJ19, ⟨mc19, rfl⟩⟩ := hcut
                  cases kq with
                  | zero => exact absurd HA.out (by simp [emendationref01_Next.j6])
                  | succ kj19 =>
                   have H := HA.out
                   clear HA
                   simp only [emendationref01_Next.j6] at H
                   have HC22 := Aside0.mk H
                   clear H
                   go_upto_region 13 with (fail)
                   go_cut [58] (fun v58 wc => ∃ (kq : Nat) (x58_21 : Bool), v58 = .bool x58_21 ∧ Aside0 (emendationref01_Next.j7 kq a0 a1 x7_19 x8_19 x58_21 = some (r1, r2)) ∧ Aside0 (kq ≤ kj19) ∧ Drawn0 w wc)
                   case first =>
                    have H := HC22.out
                    clear HC22
                    by_cases c23 : x7_19 = 0
                    ·
                     rw [if_pos c23] at H
                     have c23b0 : (x7_19 == 0) = true := beq_iff_eq.mpr c23
                     have c23b1 : (x7_19 != 0) = false := bne_eq_false_iff_eq.mpr c23
                     clear c23
                     (first | rw [c23b0] | (simp only [i64_w, i32_w]; rw [c23b0]) | skip)
                     have H' := Aside0.mk H
                     clear H
                     go_wp2
                     go_meet
                     case rel => exact ⟨_, (true), (by first | rfl | (simp; done) | (simp [*]; done) | (simp [bne, beq_nil_E]; done)), H', ⟨by have := HJ2.out; have := HJ9.out; have := HJ11.out; have := HJ13.out; have := HJ15.out; have := HJ17.out; have := HJ19.out; first | omega | exact Nat.le_refl _⟩, by repeat (first | exact Drawn0.refl _ | apply Drawn0.step)⟩
                    ·
                     rw [if_neg c23] at H
                     have c23b0 : (x7_19 == 0) = false := beq_eq_false_iff_ne.mpr c23
                     have c23b1 : (x7_19 != 0) = true := bne_iff_ne.mpr c23
                     (first | rw [c23b0] | (simp only [i64_w, i32_w]; rw [c23b0]) | skip)
                     have H' := Aside0.mk H
                     clear H
                     go_wp2
                     go_meet
                     case rel => exact ⟨_, (decide ((wrap64 (a1 + x7_19)) > (a0.size : Int))), (by first | rfl | (simp; done) | (simp [*]; done) | (simp [bne, beq_nil_E]; done)), H', ⟨by have := HJ2.out; have := HJ9.out; have := HJ11.out; have := HJ13.out; have := HJ15.out; have := HJ17.out; have := HJ19.out; first | omega | exact Nat.le_refl _⟩, by repeat (first | exact Drawn0.refl _ | apply Drawn0.step)⟩
                   case rest =>
                    clear HC22
                    try clear c1
                    try clear c2
                    try clear p2
                    try clear c4
                    try clear c4b0
                    try clear c5
                    try clear c6
                    try clear c6b0
                    try clear p6
                    try clear c7
                    try clear c7b0
                    try clear p8
                    try clear q8
                    try clear hx8
                    try clear c9
                    try clear c9b0
                    try clear c11
                    try clear c11b0
                    try clear c13
                    try clear c15
                    try clear c15b0
                    try clear c17
                    try clear c19
                    try clear c19b0
                    try clear c21
                    try clear c23
                    try clear c23b0
                    try clear c23b1
                    try clear p2
                    try clear p6
                    try clear p8
                    try clear q8
                    obtain ⟨kq, x58_21, rfl, HA, HJ21, ⟨mc21, rfl⟩⟩ := hcut
                    cases kq with
                    | zero => exact absurd HA.out (by simp [emendationref01_Next.j7])
                    | succ kj21 =>
                     have H := HA.out
                     clear HA
                     simp only [emendationref01_Next.j7] at H
                     by_cases c24 : x58_21 = true
                     ·
                      subst c24
                      have H1 : (some (0, 0)) = some (r1, r2) := by rw [if_pos rfl] at H; exact H
                      clear H
                      have H := H1
                      clear H1
                      simp only [Option.some.injEq, Prod.mk.injEq] at H
                      obtain ⟨rfl, rfl⟩ := H
                      go_wp2
                      go_ret2
                      exact ⟨by first | rfl | (simp; done) | (simp [*]; done) | (simp [bne, beq_nil_E]; done), by repeat (first | exact Drawn0.refl _ | apply Drawn0.step)⟩
                     ·
                      replace c24 := Bool.eq_false_iff.mpr c24
                      subst c24
                      have H1 : (emendationref01_Next.l0 kj21 a0 a1 x7_19 x8_19 1) = some (r1, r2) := by rw [if_neg (show ¬ (false = true) by decide)] at H; exact H
                      clear H
                      have H := H1
                      clear H1
                      have H' := Aside0.mk H
                      clear H
                      go_wp2
                      go_loopg [8, 9] kj21 (fun kq v8 v9 w' => ∃ (x8_9 : Int) (x9_9 : Int), v8 = .int .i64 x8_9 ∧ v9 = .int .i64 x9_9 ∧ Aside0 (emendationref01_Next.l0 kq a0 a1 x7_19 x8_9 x9_9 = some (r1, r2)) ∧ Aside0 (kq ≤ kj21) ∧ Drawn0 w w')
                      case atStart => exact ⟨(x8_19), (1), (by first | rfl | (simp; done) | (simp [*]; done) | (simp [bne, beq_nil_E]; done)), (by first | rfl | (simp; done) | (simp [*]; done) | (simp [bne, beq_nil_E]; done)), H', ⟨Nat.le_refl _⟩, by repeat (first | exact Drawn0.refl _ | apply Drawn0.step)⟩
                      case round =>
                       clear H'
                       try clear c1
                       try clear c2
                       try clear p2
                       try clear c4
                       try clear c4b0
                       try clear c5
                       try clear c6
                       try clear c6b0
                       try clear p6
                       try clear c7
                       try clear c7b0
                       try clear p8
                       try clear q8
                       try clear hx8
                       try clear c9
                       try clear c9b0
                       try clear c11
                       try clear c11b0
                       try clear c13
                       try clear c15
                       try clear c15b0
                       try clear c17
                       try clear c19
                       try clear c19b0
                       try clear c21
                       try clear c23
                       try clear c23b0
                       try clear c23b1
                       try clear c24
                       try clear p2
                       try clear p6
                       try clear p8
                       try clear q8
                       obtain ⟨x8_9, x9_9, rfl, rfl, HA, HK9, ⟨m9, rfl⟩⟩ := hrel
                       cases gk with
                       | zero => exact absurd HA.out (by simp [emendationref01_Next.l0])
                       | succ k9 =>
                        have H := HA.out
                        clear HA
                        simp only [emendationref01_Next.l0] at H
                        by_cases c25 : x9_9 < x7_19
                        ·
                         rw [if_pos c25] at H
                         have c25b0 : decide (x9_9 < x7_19) = true := decide_eq_true c25
                         clear c25
                         obtain ⟨ji26, hji26⟩ : ∃ j_ : Int, (wrap64 (a1 + x9_9)) = j_ := ⟨_, rfl⟩
                         replace H : (if 0 ≤ (ji26) then (if (ji26) < (a0.size : Int) then ((emendationref01_more.f (bt a0 (ji26))).bind fun t112 => (if t112 = true then (emendationref01_Next.l0 k9 a0 a1 x7_19 (wrap64 ((wrap64 ((wrap64 (x8_9 * 64)) + (wrap64 (bt a0 (ji26))))) - 128)) (wrap64 (x9_9 + 1))) else (some (0, 0)))) else (none)) else (none)) = some (r1, r2) := by first | (rw [hji26] at H; exact H) | (simp only [hji26] at H ⊢; exact H)
                         have hji26w : (IntKind.i64.wrap (a1 + x9_9)) = ji26 := (i64_w _).trans hji26
                         by_cases c27 : 0 ≤ (ji26)
                         ·
                          rw [if_pos c27] at H
                          have c27b0 : decide (0 ≤ (ji26)) = true := decide_eq_true c27
                          clear c27
                          by_cases c28 : (ji26) < (a0.size : Int)
                          ·
                           rw [if_pos c28] at H
                           have c28b0 : decide ((ji26) < (a0.size : Int)) = true := decide_eq_true c28
                           clear c28
                           replace H := Option.bind_eq_some_iff.mp H
                           obtain ⟨t112, A300, H⟩ := H
                           replace H : (if t112 = true then (emendationref01_Next.l0 k9 a0 a1 x7_19 (wrap64 ((wrap64 ((wrap64 (x8_9 * 64)) + (wrap64 (bt a0 (ji26))))) - 128)) (wrap64 (x9_9 + 1))) else (some (0, 0))) = some (r1, r2) := H
                           have A30 := Aside0.mk A300
                           clear A300
                           by_cases c31 : t112 = true
                           ·
                            subst c31
                            have H1 : (emendationref01_Next.l0 k9 a0 a1 x7_19 (wrap64 ((wrap64 ((wrap64 (x8_9 * 64)) + (wrap64 (bt a0 (ji26))))) - 128)) (wrap64 (x9_9 + 1))) = some (r1, r2) := by rw [if_pos rfl] at H; exact H
                            clear H
                            have H := H1
                            clear H1
                            have H' := Aside0.mk H
                            clear H
                            have p29 : 0 ≤ ((ji26) : Int) := of_decide_eq_true (by first | (with_reducible assumption) | assumption)
                            have q29 : (ji26) < (a0.size : Int) := of_decide_eq_true (by first | (with_reducible assumption) | assumption)
                            have hx29 := bt_at a0 (ji26)
                            replace p29 := eq_true p29
                            replace q29 := eq_true q29
                            go_wp2_with (first | ((with_reducible refine gate_callee (f := 108) rfl ?_); refine goesL_ (some 69) rfl rfl Tryd.func108 (by kernel_rfl) rfl #[.int .u8 (bt a0 (ji26))] rfl (by (try simp only [List.map_toArray, List.map_cons, List.map_nil]); first | done | (simp only [hji26]; rfl) | rfl | (simp only [List.length_drop, List.length_take]; rfl)) ?_; (with_reducible refine (emendationref01_more.calls (bt a0 (ji26)) true _ A30.out).mono ?_); rintro e w' ⟨rfl, ⟨nd, rfl⟩⟩; refine ⟨_, rfl, ?_⟩; have p32 : 0 ≤ ((ji26) : Int) := of_decide_eq_true (by first | (with_reducible assumption) | assumption); have q32 : (ji26) < (a0.size : Int) := of_decide_eq_true (by first | (with_reducible assumption) | assumption); have hx32 := bt_at a0 (ji26); replace p32 := eq_true p32; replace q32 := eq_true q32))
                            go_roundg k9
                            case measure => have := HJ2.out; have := HJ9.out; have := HJ11.out; have := HJ13.out; have := HJ15.out; have := HJ17.out; have := HJ19.out; have := HJ21.out; have := HK9.out; omega
                            case rel => exact ⟨(wrap64 ((wrap64 ((wrap64 (x8_9 * 64)) + (wrap64 (bt a0 (ji26))))) - 128)), (wrap64 (x9_9 + 1)), (by first | rfl | (simp; done) | (simp only [← hji26] <;> (first | rfl | simp)) | (simp [*]; done)), (by first | rfl | (simp; done) | (simp [*]; done) | (simp [bne, beq_nil_E]; done)), H', ⟨by have := HJ2.out; have := HJ9.out; have := HJ11.out; have := HJ13.out; have := HJ15.out; have := HJ17.out; have := HJ19.out; have := HJ21.out; have := HK9.out; omega⟩, by repeat (first | exact Drawn0.refl _ | apply Drawn0.step)⟩
                           ·
                            replace c31 := Bool.eq_false_iff.mpr c31
                            subst c31
                            have H1 : (some (0, 0)) = some (r1, r2) := by rw [if_neg (show ¬ (false = true) by decide)] at H; exact H
                            clear H
                            have H := H1
                            clear H1
                            simp only [Option.some.injEq, Prod.mk.injEq] at H
                            obtain ⟨rfl, rfl⟩ := H
                            have p29 : 0 ≤ ((ji26) : Int) := of_decide_eq_true (by first | (with_reducible assumption) | assumption)
                            have q29 : (ji26) < (a0.size : Int) := of_decide_eq_true (by first | (with_reducible assumption) | assumption)
                            have hx29 := bt_at a0 (ji26)
                            replace p29 := eq_true p29
                            replace q29 := eq_true q29
                            go_wp2_with (first | ((with_reducible refine gate_callee (f := 108) rfl ?_); refine goesL_ (some 69) rfl rfl Tryd.func108 (by kernel_rfl) rfl #[.int .u8 (bt a0 (ji26))] rfl (by (try simp only [List.map_toArray, List.map_cons, List.map_nil]); first | done | (simp only [hji26]; rfl) | rfl | (simp only [List.length_drop, List.length_take]; rfl)) ?_; (with_reducible refine (emendationref01_more.calls (bt a0 (ji26)) false _ A30.out).mono ?_); rintro e w' ⟨rfl, ⟨nd, rfl⟩⟩; refine ⟨_, rfl, ?_⟩))
                            go_ret2
                            exact ⟨by first | rfl | (simp; done) | (simp only [← hji26] <;> (first | rfl | simp)) | (simp [*]; done), by repeat (first | exact Drawn0.refl _ | apply Drawn0.step)⟩
                          ·
                           rw [if_neg c28] at H
                           exact absurd H (by simp)
                         ·
                          rw [if_neg c27] at H
                          exact absurd H (by simp)
                        ·
                         rw [if_neg c25] at H
                         have c25b0 : decide (x9_9 < x7_19) = false := decide_eq_false c25
                         clear c25
                         by_cases c33 : x7_19 = 3
                         ·
                          rw [if_pos c33] at H
                          have c33b0 : (x7_19 == 3) = true := beq_iff_eq.mpr c33
                          have c33b1 : (x7_19 != 3) = false := bne_eq_false_iff_eq.mpr c33
                          clear c33
                          by_cases c34 : x8_9 < 2048
                          ·
                           rw [if_pos c34] at H
                           have c34b0 : decide (x8_9 < 2048) = true := decide_eq_true c34
                           clear c34
                           simp only [Option.some.injEq, Prod.mk.injEq] at H
                           obtain ⟨rfl, rfl⟩ := H
                           go_wp2
                           go_ret2
                           exact ⟨by first | rfl | (simp; done) | (simp [*]; done) | (simp [bne, beq_nil_E]; done), by repeat (first | exact Drawn0.refl _ | apply Drawn0.step)⟩
                          ·
                           rw [if_neg c34] at H
                           have c34b0 : decide (x8_9 < 2048) = false := decide_eq_false c34
                           clear c34
                           by_cases c35 : x8_9 ≥ 55296
                           ·
                            rw [if_pos c35] at H
                            have c35b0 : decide (55296 ≤ x8_9) = true := decide_eq_true c35
                            clear c35
                            by_cases c36 : x8_9 ≤ 57343
                            ·
                             rw [if_pos c36] at H
                             have c36b0 : decide (x8_9 ≤ 57343) = true := decide_eq_true c36
                             clear c36
                             simp only [Option.some.injEq, Prod.mk.injEq] at H
                             obtain ⟨rfl, rfl⟩ := H
                             go_wp2
                             go_ret2
                             exact ⟨by first | rfl | (simp; done) | (simp [*]; done) | (simp [bne, beq_nil_E]; done), by repeat (first | exact Drawn0.refl _ | apply Drawn0.step)⟩
                            ·
                             rw [if_neg c36] at H
                             have c36b0 : decide (x8_9 ≤ 57343) = false := decide_eq_false c36
                             clear c36
                             by_cases c37 : x7_19 = 4
                             ·
                              rw [if_pos c37] at H
                              have c37b0 : (x7_19 == 4) = true := beq_iff_eq.mpr c37
                              have c37b1 : (x7_19 != 4) = false := bne_eq_false_iff_eq.mpr c37
                              clear c37
                              by_cases c38 : x8_9 < 65536
                              ·
                               rw [if_pos c38] at H
                               have c38b0 : decide (x8_9 < 65536) = true := decide_eq_true c38
                               clear c38
                               simp only [Option.some.injEq, Prod.mk.injEq] at H
                               obtain ⟨rfl, rfl⟩ := H
                               go_wp2
                               go_ret2
                               exact ⟨by first | rfl | (simp; done) | (simp [*]; done) | (simp [bne, beq_nil_E]; done), by repeat (first | exact Drawn0.refl _ | apply Drawn0.step)⟩
                              ·
                               rw [if_neg c38] at H
                               have c38b0 : decide (x8_9 < 65536) = false := decide_eq_false c38
                               clear c38
                               by_cases c39 : x8_9 > 1114111
                               ·
                                rw [if_pos c39] at H
                                have c39b0 : decide (1114111 < x8_9) = true := decide_eq_true c39
                                clear c39
                                simp only [Option.some.injEq, Prod.mk.injEq] at H
                                obtain ⟨rfl, rfl⟩ := H
                                go_wp2
                                go_ret2
                                exact ⟨by first | rfl | (simp; done) | (simp [*]; done) | (simp [bne, beq_nil_E]; done), by repeat (first | exact Drawn0.refl _ | apply Drawn0.step)⟩
                               ·
                                rw [if_neg c39] at H
                                have c39b0 : decide (1114111 < x8_9) = false := decide_eq_false c39
                                clear c39
                                simp only [Option.some.injEq, Prod.mk.injEq] at H
                                obtain ⟨rfl, rfl⟩ := H
                                go_wp2
                                go_ret2
                                exact ⟨by first | rfl | (simp; done) | (simp [*]; done) | (simp [bne, beq_nil_E]; done), by repeat (first | exact Drawn0.refl _ | apply Drawn0.step)⟩
                             ·
                              rw [if_neg c37] at H
                              have c37b0 : (x7_19 == 4) = false := beq_eq_false_iff_ne.mpr c37
                              have c37b1 : (x7_19 != 4) = true := bne_iff_ne.mpr c37
                              simp only [Option.some.injEq, Prod.mk.injEq] at H
                              obtain ⟨rfl, rfl⟩ := H
                              go_wp2
                              go_ret2
                              exact ⟨by first | rfl | (simp; done) | (simp [*]; done) | (simp [bne, beq_nil_E]; done), by repeat (first | exact Drawn0.refl _ | apply Drawn0.step)⟩
                           ·
                            rw [if_neg c35] at H
                            have c35b0 : decide (55296 ≤ x8_9) = false := decide_eq_false c35
                            clear c35
                            by_cases c40 : x7_19 = 4
                            ·
                             rw [if_pos c40] at H
                             have c40b0 : (x7_19 == 4) = true := beq_iff_eq.mpr c40
                             have c40b1 : (x7_19 != 4) = false := bne_eq_false_iff_eq.mpr c40
                             clear c40
                             by_cases c41 : x8_9 < 65536
                             ·
                              rw [if_pos c41] at H
                              have c41b0 : decide (x8_9 < 65536) = true := decide_eq_true c41
                              clear c41
                              simp only [Option.some.injEq, Prod.mk.injEq] at H
                              obtain ⟨rfl, rfl⟩ := H
                              go_wp2
                              go_ret2
                              exact ⟨by first | rfl | (simp; done) | (simp [*]; done) | (simp [bne, beq_nil_E]; done), by repeat (first | exact Drawn0.refl _ | apply Drawn0.step)⟩
                             ·
                              rw [if_neg c41] at H
                              have c41b0 : decide (x8_9 < 65536) = false := decide_eq_false c41
                              clear c41
                              by_cases c42 : x8_9 > 1114111
                              ·
                               rw [if_pos c42] at H
                               have c42b0 : decide (1114111 < x8_9) = true := decide_eq_true c42
                               clear c42
                               simp only [Option.some.injEq, Prod.mk.injEq] at H
                               obtain ⟨rfl, rfl⟩ := H
                               go_wp2
                               go_ret2
                               exact ⟨by first | rfl | (simp; done) | (simp [*]; done) | (simp [bne, beq_nil_E]; done), by repeat (first | exact Drawn0.refl _ | apply Drawn0.step)⟩
                              ·
                               rw [if_neg c42] at H
                               have c42b0 : decide (1114111 < x8_9) = false := decide_eq_false c42
                               clear c42
                               simp only [Option.some.injEq, Prod.mk.injEq] at H
                               obtain ⟨rfl, rfl⟩ := H
                               go_wp2
                               go_ret2
                               exact ⟨by first | rfl | (simp; done) | (simp [*]; done) | (simp [bne, beq_nil_E]; done), by repeat (first | exact Drawn0.refl _ | apply Drawn0.step)⟩
                            ·
                             rw [if_neg c40] at H
                             have c40b0 : (x7_19 == 4) = false := beq_eq_false_iff_ne.mpr c40
                             have c40b1 : (x7_19 != 4) = true := bne_iff_ne.mpr c40
                             simp only [Option.some.injEq, Prod.mk.injEq] at H
                             obtain ⟨rfl, rfl⟩ := H
                             go_wp2
                             go_ret2
                             exact ⟨by first | rfl | (simp; done) | (simp [*]; done) | (simp [bne, beq_nil_E]; done), by repeat (first | exact Drawn0.refl _ | apply Drawn0.step)⟩
                         ·
                          rw [if_neg c33] at H
                          have c33b0 : (x7_19 == 3) = false := beq_eq_false_iff_ne.mpr c33
                          have c33b1 : (x7_19 != 3) = true := bne_iff_ne.mpr c33
                          by_cases c43 : x7_19 = 4
                          ·
                           rw [if_pos c43] at H
                           have c43b0 : (x7_19 == 4) = true := beq_iff_eq.mpr c43
                           have c43b1 : (x7_19 != 4) = false := bne_eq_false_iff_eq.mpr c43
                           clear c43
                           by_cases c44 : x8_9 < 65536
                           ·
                            rw [if_pos c44] at H
                            have c44b0 : decide (x8_9 < 65536) = true := decide_eq_true c44
                            clear c44
                            simp only [Option.some.injEq, Prod.mk.injEq] at H
                            obtain ⟨rfl, rfl⟩ := H
                            go_wp2
                            go_ret2
                            exact ⟨by first | rfl | (simp; done) | (simp [*]; done) | (simp [bne, beq_nil_E]; done), by repeat (first | exact Drawn0.refl _ | apply Drawn0.step)⟩
                           ·
                            rw [if_neg c44] at H
                            have c44b0 : decide (x8_9 < 65536) = false := decide_eq_false c44
                            clear c44
                            by_cases c45 : x8_9 > 1114111
                            ·
                             rw [if_pos c45] at H
                             have c45b0 : decide (1114111 < x8_9) = true := decide_eq_true c45
                             clear c45
                             simp only [Option.some.injEq, Prod.mk.injEq] at H
                             obtain ⟨rfl, rfl⟩ := H
                             go_wp2
                             go_ret2
                             exact ⟨by first | rfl | (simp; done) | (simp [*]; done) | (simp [bne, beq_nil_E]; done), by repeat (first | exact Drawn0.refl _ | apply Drawn0.step)⟩
                            ·
                             rw [if_neg c45] at H
                             have c45b0 : decide (1114111 < x8_9) = false := decide_eq_false c45
                             clear c45
                             simp only [Option.some.injEq, Prod.mk.injEq] at H
                             obtain ⟨rfl, rfl⟩ := H
                             go_wp2
                             go_ret2
                             exact ⟨by first | rfl | (simp; done) | (simp [*]; done) | (simp [bne, beq_nil_E]; done), by repeat (first | exact Drawn0.refl _ | apply Drawn0.step)⟩
                          ·
                           rw [if_neg c43] at H
                           have c43b0 : (x7_19 == 4) = false := beq_eq_false_iff_ne.mpr c43
                           have c43b1 : (x7_19 != 4) = true := bne_iff_ne.mpr c43
                           simp only [Option.some.injEq, Prod.mk.injEq] at H
                           obtain ⟨rfl, rfl⟩ := H
                           go_wp2
                           go_ret2
                           exact ⟨by first | rfl | (simp; done) | (simp [*]; done) | (simp [bne, beq_nil_E]; done), by repeat (first | exact Drawn0.refl _ | apply Drawn0.step)⟩
     ·
      rw [if_neg c7] at H
      exact absurd H (by simp)
    ·
     rw [if_neg c6] at H
     exact absurd H (by simp)

end Go.Proofs.YtmfffpfenhgjbaaDoor.X
