-- Written by a program of this session (wip/mkprint.py over the kit's print) out of the translation; Lean checks it.
import Derived.Test.YtpofifheicbilaaDoorX0
import Derived.Test.YtpofifheicbilaaDoorX1
import Derived.Test.YtpofifheicbilaaDoorX4
namespace Go.Proofs.YtpofifheicbilaaDoor.X
open Go.RowKit Go.Proofs.YtpofifheicbilaaDoor.G Go.Proofs.YtpofifheicbilaaDoorW.PrintWords Go.Proofs.YtpofifheicbilaaDoorW.PrintLast Go.Proofs.YtpofifheicbilaaDoorW.PrintMore
attribute [local go_sem] max2_int min2_int max_two min_two max_three min_three max_four min_four   -- for this text's walks alone
set_option linter.unusedVariables false
set_option linter.unusedSimpArgs false

/-! ### emendationref02_Longest: function 20 -/
def emendationref02_Longest.l0 : Nat → ByteArray → Int → Int → Int → Int → Option (Int)
  | 0, _, _, _, _, _ => none
  | k + 1, x0, x1, x5, x8, x9 => if x9 < x8 then (if 0 ≤ x9 then (if x9 ≤ (x0.size : Int) then ((emendationref02_Run.f k (x0.extract (x9 : Int).toNat x0.size) x1).bind fun t180 => (emendationref02_Longest.l0 k x0 x1 (mx x5 t180) x8 (wrap64 (x9 + 1)))) else (none)) else (none)) else (some x5)
def emendationref02_Longest.f (k : Nat) (a0 : ByteArray) (a1 : Int) : Option (Int) := emendationref02_Longest.l0 k a0 a1 0 (a0.size : Int) 0
theorem emendationref02_Longest.mono_l : ∀ k, (∀ y0 y1 y2 y3 y4, LeO (emendationref02_Longest.l0 k y0 y1 y2 y3 y4) (emendationref02_Longest.l0 (k + 1) y0 y1 y2 y3 y4))
  | 0 => fun _ _ _ _ _ r h => by simp [emendationref02_Longest.l0] at h
  | k + 1 => by
    have ih0 := emendationref02_Longest.mono_l k
    · intro y0 y1 y2 y3 y4
      unfold emendationref02_Longest.l0
      repeat' first
      | (with_reducible exact ih0 _ _ _ _ _)
      | (with_reducible exact emendationref02_Run.mono _ _ _)
      | (with_reducible exact LeO.refl _)
      | (with_reducible exact LeO.none _)
      | (with_reducible refine LeO.ite ?_ ?_)
      | (with_reducible refine LeO.bind ?_ (fun _ => ?_))
      | exact ih0 _ _ _ _ _
      | exact emendationref02_Run.mono _ _ _
      | exact LeO.none _
      | refine LeO.ite ?_ ?_
      | refine LeO.bind ?_ (fun _ => ?_)
theorem emendationref02_Longest.mono : ∀ a0 a1 k, LeO (emendationref02_Longest.f k a0 a1) (emendationref02_Longest.f (k + 1) a0 a1) := by
  intro a0 a1 k
  have ih0 := emendationref02_Longest.mono_l k
  unfold emendationref02_Longest.f
  repeat' first
      | (with_reducible exact ih0 _ _ _ _ _)
      | (with_reducible exact emendationref02_Run.mono _ _ _)
      | (with_reducible exact LeO.refl _)
      | (with_reducible exact LeO.none _)
      | (with_reducible refine LeO.ite ?_ ?_)
      | (with_reducible refine LeO.bind ?_ (fun _ => ?_))
      | exact ih0 _ _ _ _ _
      | exact emendationref02_Run.mono _ _ _
      | exact LeO.none _
      | refine LeO.ite ?_ ?_
      | refine LeO.bind ?_ (fun _ => ?_)
set_option maxHeartbeats 8000000 in
set_option maxRecDepth 100000 in
theorem emendationref02_Longest.calls (k : Nat) (a0 : ByteArray) (a1 : Int) (r : Int) (w : World) (h : emendationref02_Longest.f k a0 a1 = some r) :
    Calls Tryd.prog 20 #[.string a0, .int .u8 a1] w fun e w' => e = .returned (.int .i64 r) ∧ Below w.heap.size w w' := by
  have HB := Aside0.mk (Below.refl w.heap.size w)
  have H : (emendationref02_Longest.l0 k a0 a1 0 (a0.size : Int) 0) = some r := h
  clear h
  have H' := Aside0.mk H
  clear H
  go_enter Tryd.func20, Tryd.ntmps20
  go_wp2
  go_loopg [5, 9] k (fun kq v5 v9 w' => ∃ (x5_1 : Int) (x9_1 : Int), v5 = .int .i64 x5_1 ∧ v9 = .int .i64 x9_1 ∧ Aside0 (emendationref02_Longest.l0 kq a0 a1 x5_1 (a0.size : Int) x9_1 = some r) ∧ Aside0 (kq ≤ k) ∧ Aside0 (Below w.heap.size w w'))
  case atStart => exact ⟨(0), (0), (by first | rfl | (simp; done) | (simp [*]; done)), (by first | rfl | (simp; done) | (simp [*]; done)), H', ⟨Nat.le_refl _⟩, ⟨by repeat (first | (with_reducible first | exact HB.out | apply below_alloc | apply pw_below_drewN | apply below_drew1) | exact HB.out)⟩⟩
  case round =>
    clear H'
    try clear c2
    try clear p2
    obtain ⟨x5_1, x9_1, rfl, rfl, HA, HK1, HB⟩ := hrel
    cases gk with
    | zero => exact absurd HA.out (by simp [emendationref02_Longest.l0])
    | succ k1 =>
      have H := HA.out
      clear HA
      simp only [emendationref02_Longest.l0] at H
      by_cases c3 : x9_1 < (a0.size : Int)
      · rw [if_pos c3] at H
        have c3b0 : decide (x9_1 < (a0.size : Int)) = true := decide_eq_true c3
        clear c3
        by_cases c4 : 0 ≤ x9_1
        · rw [if_pos c4] at H
          have c4b0 := eq_true c4
          have c4b1 : decide (0 ≤ x9_1) = true := decide_eq_true c4
          clear c4
          by_cases c5 : x9_1 ≤ (a0.size : Int)
          · rw [if_pos c5] at H
            have c5b0 := eq_true c5
            have c5b1 : decide (x9_1 ≤ (a0.size : Int)) = true := decide_eq_true c5
            clear c5
            replace H := Option.bind_eq_some_iff.mp H
            obtain ⟨t180, A60, H⟩ := H
            replace H : (emendationref02_Longest.l0 k1 a0 a1 (mx x5_1 t180) (a0.size : Int) (wrap64 (x9_1 + 1))) = some r := H
            have A6 := Aside0.mk A60
            clear A60
            obtain ⟨ji7, hji7⟩ : ∃ j_ : Int, (mx x5_1 t180) = j_ := ⟨_, rfl⟩
            replace H : (emendationref02_Longest.l0 k1 a0 a1 ji7 (a0.size : Int) (wrap64 (x9_1 + 1))) = some r := by first | (rw [hji7] at H; exact H) | (simp only [hji7] at H ⊢; exact H)
            (try rw [hji7] at A6)
            have hji7_ : (if x5_1 < t180 then t180 else x5_1) = ji7 := hji7
            have H' := Aside0.mk H
            clear H
            go_wp2_with (first | ((with_reducible refine gate_callee (f := 18) rfl ?_); refine goesL_ (some 17) rfl rfl Tryd.func18 (by kernel_rfl) rfl #[.string (a0.extract (x9_1 : Int).toNat a0.size), .int .u8 a1] rfl (by (try simp only [List.map_toArray, List.map_cons, List.map_nil]); first | done | rfl | (simp only [List.length_drop, List.length_take]; rfl)) ?_; (with_reducible refine (emendationref02_Run.calls k1 (a0.extract (x9_1 : Int).toNat a0.size) a1 t180 _ A6.out).mono ?_); rintro e w' ⟨rfl, ⟨nd, rfl⟩⟩; refine ⟨_, rfl, ?_⟩))
            go_roundg k1
            case measure => have := HK1.out; omega
            case rel => exact ⟨(ji7), (wrap64 (x9_1 + 1)), (by first | rfl | (simp; done) | (simp only [← hji7] <;> (first | rfl | simp)) | (simp [*]; done)), (by first | rfl | (simp; done) | (simp [*]; done)), H', ⟨by have := HK1.out; omega⟩, ⟨by repeat (first | (with_reducible first | exact HB.out | apply below_alloc | apply pw_below_drewN | apply below_drew1) | exact HB.out)⟩⟩
          · rw [if_neg c5] at H
            exact absurd H (by simp)
        · rw [if_neg c4] at H
          exact absurd H (by simp)
      · rw [if_neg c3] at H
        have c3b0 : decide (x9_1 < (a0.size : Int)) = false := decide_eq_false c3
        clear c3
        obtain rfl := Option.some.inj H
        go_wp2
        go_ret
        exact ⟨by first | rfl | (simp [errW_none, errW_some] <;> rfl) | (simp [*, errW_none, errW_some] <;> rfl), by repeat (first | (with_reducible first | exact HB.out | apply below_alloc | apply pw_below_drewN | apply below_drew1) | exact HB.out)⟩

/-! ### emendationlaw02_LinesTells: function 5 -/
def emendationlaw02_LinesTells.j0 : Nat → ByteArray → Int → Bool → Option (Bool)
  | 0, _, _, _ => none
  | k + 1, x0, x1, x11 => if x11 = true then ((emendationlaw02_awake.f k).bind fun t182 => (some t182)) else ((lines_Blank.f x0).bind fun t183 => ((emendationref02_Trim.f k x0).bind fun t184 => (if (t183 == (t184.toList == ([] : List UInt8))) = true then ((lines_Trim.f x0).bind fun t185 => ((emendationref02_Trim.f k x0).bind fun t186 => (if t185.toList = t186.toList then ((lines_Run.f k x0 x1).bind fun t187 => ((emendationref02_Run.f k x0 x1).bind fun t188 => (if t187 = t188 then ((lines_Longest.f k x0 x1).bind fun t189 => ((emendationref02_Longest.f k x0 x1).bind fun t190 => (some (t189 == t190)))) else (some false)))) else (some false)))) else (some false))))
def emendationlaw02_LinesTells.f (k : Nat) (a0 : ByteArray) (a1 : Int) : Option (Bool) := (emendationlaw02_awake.f k).bind fun t181 => (if t181 = true then (emendationlaw02_LinesTells.j0 k a0 a1 (decide ((a0.size : Int) > 2000))) else (emendationlaw02_LinesTells.j0 k a0 a1 true))
theorem emendationlaw02_LinesTells.mono_l : ∀ k, (∀ y0 y1 y2, LeO (emendationlaw02_LinesTells.j0 k y0 y1 y2) (emendationlaw02_LinesTells.j0 (k + 1) y0 y1 y2))
  | 0 => fun _ _ _ r h => by simp [emendationlaw02_LinesTells.j0] at h
  | k + 1 => by
    have ih0 := emendationlaw02_LinesTells.mono_l k
    · intro y0 y1 y2
      unfold emendationlaw02_LinesTells.j0
      repeat' first
      | (with_reducible exact ih0 _ _ _)
      | (with_reducible exact emendationlaw02_awake.mono _)
      | (with_reducible exact emendationref02_Longest.mono _ _ _)
      | (with_reducible exact emendationref02_Run.mono _ _ _)
      | (with_reducible exact emendationref02_Trim.mono _ _)
      | (with_reducible exact lines_Longest.mono _ _ _)
      | (with_reducible exact lines_Run.mono _ _ _)
      | (with_reducible exact LeO.refl _)
      | (with_reducible exact LeO.none _)
      | (with_reducible refine LeO.ite ?_ ?_)
      | (with_reducible refine LeO.bind ?_ (fun _ => ?_))
      | exact ih0 _ _ _
      | exact emendationlaw02_awake.mono _
      | exact emendationref02_Longest.mono _ _ _
      | exact emendationref02_Run.mono _ _ _
      | exact emendationref02_Trim.mono _ _
      | exact lines_Longest.mono _ _ _
      | exact lines_Run.mono _ _ _
      | exact LeO.none _
      | refine LeO.ite ?_ ?_
      | refine LeO.bind ?_ (fun _ => ?_)
theorem emendationlaw02_LinesTells.mono : ∀ a0 a1 k, LeO (emendationlaw02_LinesTells.f k a0 a1) (emendationlaw02_LinesTells.f (k + 1) a0 a1) := by
  intro a0 a1 k
  have ih0 := emendationlaw02_LinesTells.mono_l k
  unfold emendationlaw02_LinesTells.f
  repeat' first
      | (with_reducible exact ih0 _ _ _)
      | (with_reducible exact emendationlaw02_awake.mono _)
      | (with_reducible exact emendationref02_Longest.mono _ _ _)
      | (with_reducible exact emendationref02_Run.mono _ _ _)
      | (with_reducible exact emendationref02_Trim.mono _ _)
      | (with_reducible exact lines_Longest.mono _ _ _)
      | (with_reducible exact lines_Run.mono _ _ _)
      | (with_reducible exact LeO.refl _)
      | (with_reducible exact LeO.none _)
      | (with_reducible refine LeO.ite ?_ ?_)
      | (with_reducible refine LeO.bind ?_ (fun _ => ?_))
      | exact ih0 _ _ _
      | exact emendationlaw02_awake.mono _
      | exact emendationref02_Longest.mono _ _ _
      | exact emendationref02_Run.mono _ _ _
      | exact emendationref02_Trim.mono _ _
      | exact lines_Longest.mono _ _ _
      | exact lines_Run.mono _ _ _
      | exact LeO.none _
      | refine LeO.ite ?_ ?_
      | refine LeO.bind ?_ (fun _ => ?_)
set_option maxHeartbeats 8000000 in
set_option maxRecDepth 100000 in
theorem emendationlaw02_LinesTells.calls (k : Nat) (a0 : ByteArray) (a1 : Int) (r : Bool) (w : World) (h : emendationlaw02_LinesTells.f k a0 a1 = some r) :
    Calls Tryd.prog 5 #[.string a0, .int .u8 a1] w fun e w' => e = .returned (.bool r) ∧ Below w.heap.size w w' := by
  have HB := Aside0.mk (Below.refl w.heap.size w)
  have H : ((emendationlaw02_awake.f k).bind fun t181 => (if t181 = true then (emendationlaw02_LinesTells.j0 k a0 a1 (decide ((a0.size : Int) > 2000))) else (emendationlaw02_LinesTells.j0 k a0 a1 true))) = some r := h
  clear h
  have HC3 := Aside0.mk H
  clear H
  go_enter Tryd.func5, Tryd.ntmps5
  go_upto_region 1 with (fail)
  go_cut [11] (fun v11 wc => ∃ (kq : Nat) (x11_2 : Bool), v11 = .bool x11_2 ∧ Aside0 (emendationlaw02_LinesTells.j0 kq a0 a1 x11_2 = some r) ∧ Aside0 (kq ≤ k) ∧ Aside0 (Below w.heap.size w wc))
  case first =>
    have H := HC3.out
    clear HC3
    replace H := Option.bind_eq_some_iff.mp H
    obtain ⟨t181, A40, H⟩ := H
    replace H : (if t181 = true then (emendationlaw02_LinesTells.j0 k a0 a1 (decide ((a0.size : Int) > 2000))) else (emendationlaw02_LinesTells.j0 k a0 a1 true)) = some r := H
    have A4 := Aside0.mk A40
    clear A40
    by_cases c5 : t181 = true
    · subst c5
      have H1 : (emendationlaw02_LinesTells.j0 k a0 a1 (decide ((a0.size : Int) > 2000))) = some r := by rw [if_pos rfl] at H; exact H
      clear H
      have H := H1
      clear H1
      have H' := Aside0.mk H
      clear H
      go_wp2_with (first | ((with_reducible refine gate_callee (f := 10) rfl ?_); refine goesL_ (some 5) rfl rfl Tryd.func10 (by kernel_rfl) rfl #[] rfl (by (try simp only [List.map_toArray, List.map_cons, List.map_nil]); first | done | rfl | (simp only [List.length_drop, List.length_take]; rfl)) ?_; (with_reducible refine (emendationlaw02_awake.calls k  true _ A4.out).mono ?_); rintro e w6 ⟨rfl, hb⟩; refine ⟨_, rfl, ?_⟩; have n0_ := Aside0.mk (below_step (by repeat (first | (with_reducible first | exact HB.out | apply below_alloc | apply pw_below_drewN | apply below_drew1) | exact HB.out)) hb); clear HB; have HB := n0_; clear n0_; (try clear hb); (try clear hb2); (try clear hk); (try clear hi)))
      go_meet
      case rel => exact ⟨_, (decide ((a0.size : Int) > 2000)), (by first | rfl | (simp; done) | (simp [*]; done)), H', ⟨by first | omega | exact Nat.le_refl _⟩, ⟨by repeat (first | (with_reducible first | exact HB.out | apply below_alloc | apply pw_below_drewN | apply below_drew1) | exact HB.out)⟩⟩
    · replace c5 := Bool.eq_false_iff.mpr c5
      subst c5
      have H1 : (emendationlaw02_LinesTells.j0 k a0 a1 true) = some r := by rw [if_neg (show ¬ (false = true) by decide)] at H; exact H
      clear H
      have H := H1
      clear H1
      have H' := Aside0.mk H
      clear H
      go_wp2_with (first | ((with_reducible refine gate_callee (f := 10) rfl ?_); refine goesL_ (some 5) rfl rfl Tryd.func10 (by kernel_rfl) rfl #[] rfl (by (try simp only [List.map_toArray, List.map_cons, List.map_nil]); first | done | rfl | (simp only [List.length_drop, List.length_take]; rfl)) ?_; (with_reducible refine (emendationlaw02_awake.calls k  false _ A4.out).mono ?_); rintro e w7 ⟨rfl, hb⟩; refine ⟨_, rfl, ?_⟩; have n0_ := Aside0.mk (below_step (by repeat (first | (with_reducible first | exact HB.out | apply below_alloc | apply pw_below_drewN | apply below_drew1) | exact HB.out)) hb); clear HB; have HB := n0_; clear n0_; (try clear hb); (try clear hb2); (try clear hk); (try clear hi)))
      go_meet
      case rel => exact ⟨_, (true), (by first | rfl | (simp; done) | (simp [*]; done)), H', ⟨by first | omega | exact Nat.le_refl _⟩, ⟨by repeat (first | (with_reducible first | exact HB.out | apply below_alloc | apply pw_below_drewN | apply below_drew1) | exact HB.out)⟩⟩
  case rest =>
    clear HC3
    try clear c1
    try clear p2
    try clear c5
    obtain ⟨kq, x11_2, rfl, HA, HJ2, HB⟩ := hcut
    cases kq with
    | zero => exact absurd HA.out (by simp [emendationlaw02_LinesTells.j0])
    | succ kj2 =>
      have H := HA.out
      clear HA
      simp only [emendationlaw02_LinesTells.j0] at H
      by_cases c8 : x11_2 = true
      · subst c8
        have H1 : ((emendationlaw02_awake.f kj2).bind fun t182 => (some t182)) = some r := by rw [if_pos rfl] at H; exact H
        clear H
        have H := H1
        clear H1
        replace H := Option.bind_eq_some_iff.mp H
        obtain ⟨t182, A90, H⟩ := H
        replace H : (some t182) = some r := H
        have A9 := Aside0.mk A90
        clear A90
        obtain rfl := Option.some.inj H
        go_wp2_with (first | ((with_reducible refine gate_callee (f := 10) rfl ?_); refine goesL_ (some 12) rfl rfl Tryd.func10 (by kernel_rfl) rfl #[] rfl (by (try simp only [List.map_toArray, List.map_cons, List.map_nil]); first | done | rfl | (simp only [List.length_drop, List.length_take]; rfl)) ?_; (with_reducible refine (emendationlaw02_awake.calls kj2  t182 _ A9.out).mono ?_); rintro e w10 ⟨rfl, hb⟩; refine ⟨_, rfl, ?_⟩; have n0_ := Aside0.mk (below_step (by repeat (first | (with_reducible first | exact HB.out | apply below_alloc | apply pw_below_drewN | apply below_drew1) | exact HB.out)) hb); clear HB; have HB := n0_; clear n0_; (try clear hb); (try clear hb2); (try clear hk); (try clear hi)))
        go_ret
        exact ⟨by first | rfl | (simp [errW_none, errW_some] <;> rfl) | (simp [*, errW_none, errW_some] <;> rfl), by repeat (first | (with_reducible first | exact HB.out | apply below_alloc | apply pw_below_drewN | apply below_drew1) | exact HB.out)⟩
      · replace c8 := Bool.eq_false_iff.mpr c8
        subst c8
        have H1 : ((lines_Blank.f a0).bind fun t183 => ((emendationref02_Trim.f kj2 a0).bind fun t184 => (if (t183 == (t184.toList == ([] : List UInt8))) = true then ((lines_Trim.f a0).bind fun t185 => ((emendationref02_Trim.f kj2 a0).bind fun t186 => (if t185.toList = t186.toList then ((lines_Run.f kj2 a0 a1).bind fun t187 => ((emendationref02_Run.f kj2 a0 a1).bind fun t188 => (if t187 = t188 then ((lines_Longest.f kj2 a0 a1).bind fun t189 => ((emendationref02_Longest.f kj2 a0 a1).bind fun t190 => (some (t189 == t190)))) else (some false)))) else (some false)))) else (some false)))) = some r := by rw [if_neg (show ¬ (false = true) by decide)] at H; exact H
        clear H
        have H := H1
        clear H1
        replace H := Option.bind_eq_some_iff.mp H
        obtain ⟨t183, A110, H⟩ := H
        replace H : ((emendationref02_Trim.f kj2 a0).bind fun t184 => (if (t183 == (t184.toList == ([] : List UInt8))) = true then ((lines_Trim.f a0).bind fun t185 => ((emendationref02_Trim.f kj2 a0).bind fun t186 => (if t185.toList = t186.toList then ((lines_Run.f kj2 a0 a1).bind fun t187 => ((emendationref02_Run.f kj2 a0 a1).bind fun t188 => (if t187 = t188 then ((lines_Longest.f kj2 a0 a1).bind fun t189 => ((emendationref02_Longest.f kj2 a0 a1).bind fun t190 => (some (t189 == t190)))) else (some false)))) else (some false)))) else (some false))) = some r := H
        have A11 := Aside0.mk A110
        clear A110
        replace H := Option.bind_eq_some_iff.mp H
        obtain ⟨t184, A120, H⟩ := H
        replace H : (if (t183 == (t184.toList == ([] : List UInt8))) = true then ((lines_Trim.f a0).bind fun t185 => ((emendationref02_Trim.f kj2 a0).bind fun t186 => (if t185.toList = t186.toList then ((lines_Run.f kj2 a0 a1).bind fun t187 => ((emendationref02_Run.f kj2 a0 a1).bind fun t188 => (if t187 = t188 then ((lines_Longest.f kj2 a0 a1).bind fun t189 => ((emendationref02_Longest.f kj2 a0 a1).bind fun t190 => (some (t189 == t190)))) else (some false)))) else (some false)))) else (some false)) = some r := H
        have A12 := Aside0.mk A120
        clear A120
        by_cases c13 : (t183 == (t184.toList == ([] : List UInt8))) = true
        · rw [if_pos c13] at H
          have c13b0 : (t183 == (t184.toList == ([] : List UInt8))) = true := c13
          (try (have c13b1 : decide (t183 = (t184.toList == ([] : List UInt8))) = true := by simpa using c13))
          (try (have c13b2 : (t183 == (t184.toList == ([] : List UInt8))) = true := by simpa using c13))
          (try (have c13b0e := c13b0; simp only [beq_nil_E] at c13b0e))
          (try (have c13b1e := c13b1; simp only [beq_nil_E] at c13b1e))
          (try (have c13b2e := c13b2; simp only [beq_nil_E] at c13b2e))
          clear c13
          replace H := Option.bind_eq_some_iff.mp H
          obtain ⟨t185, A140, H⟩ := H
          replace H : ((emendationref02_Trim.f kj2 a0).bind fun t186 => (if t185.toList = t186.toList then ((lines_Run.f kj2 a0 a1).bind fun t187 => ((emendationref02_Run.f kj2 a0 a1).bind fun t188 => (if t187 = t188 then ((lines_Longest.f kj2 a0 a1).bind fun t189 => ((emendationref02_Longest.f kj2 a0 a1).bind fun t190 => (some (t189 == t190)))) else (some false)))) else (some false))) = some r := H
          have A14 := Aside0.mk A140
          clear A140
          replace H := Option.bind_eq_some_iff.mp H
          obtain ⟨t186, A150, H⟩ := H
          replace H : (if t185.toList = t186.toList then ((lines_Run.f kj2 a0 a1).bind fun t187 => ((emendationref02_Run.f kj2 a0 a1).bind fun t188 => (if t187 = t188 then ((lines_Longest.f kj2 a0 a1).bind fun t189 => ((emendationref02_Longest.f kj2 a0 a1).bind fun t190 => (some (t189 == t190)))) else (some false)))) else (some false)) = some r := H
          have A15 := Aside0.mk A150
          clear A150
          by_cases c16 : t185.toList = t186.toList
          · rw [if_pos c16] at H
            have c16b0 : (t185.toList == t186.toList) = true := beq_iff_eq.mpr c16
            have c16b1 : (t185.toList != t186.toList) = false := bne_eq_false_iff_eq.mpr c16
            clear c16
            replace H := Option.bind_eq_some_iff.mp H
            obtain ⟨t187, A170, H⟩ := H
            replace H : ((emendationref02_Run.f kj2 a0 a1).bind fun t188 => (if t187 = t188 then ((lines_Longest.f kj2 a0 a1).bind fun t189 => ((emendationref02_Longest.f kj2 a0 a1).bind fun t190 => (some (t189 == t190)))) else (some false))) = some r := H
            have A17 := Aside0.mk A170
            clear A170
            replace H := Option.bind_eq_some_iff.mp H
            obtain ⟨t188, A180, H⟩ := H
            replace H : (if t187 = t188 then ((lines_Longest.f kj2 a0 a1).bind fun t189 => ((emendationref02_Longest.f kj2 a0 a1).bind fun t190 => (some (t189 == t190)))) else (some false)) = some r := H
            have A18 := Aside0.mk A180
            clear A180
            by_cases c19 : t187 = t188
            · rw [if_pos c19] at H
              have c19b0 : (t187 == t188) = true := beq_iff_eq.mpr c19
              have c19b1 : (t187 != t188) = false := bne_eq_false_iff_eq.mpr c19
              clear c19
              replace H := Option.bind_eq_some_iff.mp H
              obtain ⟨t189, A200, H⟩ := H
              replace H : ((emendationref02_Longest.f kj2 a0 a1).bind fun t190 => (some (t189 == t190))) = some r := H
              have A20 := Aside0.mk A200
              clear A200
              replace H := Option.bind_eq_some_iff.mp H
              obtain ⟨t190, A210, H⟩ := H
              replace H : (some (t189 == t190)) = some r := H
              have A21 := Aside0.mk A210
              clear A210
              obtain rfl := Option.some.inj H
              go_wp2_with (first | ((with_reducible refine gate_callee (f := 14) rfl ?_); refine goesL_ (some 14) rfl rfl Tryd.func14 (by kernel_rfl) rfl #[.string a0] rfl (by (try simp only [List.map_toArray, List.map_cons, List.map_nil]); first | done | rfl | (simp only [List.length_drop, List.length_take]; rfl)) ?_; (with_reducible refine (lines_Blank.calls a0 t183 _ A11.out).mono ?_); rintro e w22 ⟨rfl, hb⟩; refine ⟨_, rfl, ?_⟩; have n0_ := Aside0.mk (below_step (by repeat (first | (with_reducible first | exact HB.out | apply below_alloc | apply pw_below_drewN | apply below_drew1) | exact HB.out)) hb); clear HB; have HB := n0_; clear n0_; (try clear hb); (try clear hb2); (try clear hk); (try clear hi)) | ((with_reducible refine gate_callee (f := 15) rfl ?_); refine goesL_ (some 16) rfl rfl Tryd.func15 (by kernel_rfl) rfl #[.string a0] rfl (by (try simp only [List.map_toArray, List.map_cons, List.map_nil]); first | done | rfl | (simp only [List.length_drop, List.length_take]; rfl)) ?_; (with_reducible refine (emendationref02_Trim.calls kj2 a0 t184 _ A12.out).mono ?_); rintro e w' ⟨rfl, ⟨nd, rfl⟩⟩; refine ⟨_, rfl, ?_⟩; have tkA14 : True := trivial) | (go_at_call 16; clear tkA14; (with_reducible refine (lines_Trim.calls a0 t185 _ A14.out).mono ?_); rintro e w23 ⟨rfl, hb⟩; have n0_ := Aside0.mk (below_step (by repeat (first | (with_reducible first | exact HB.out | apply below_alloc | apply pw_below_drewN | apply below_drew1) | exact HB.out)) hb); clear HB; have HB := n0_; clear n0_; (try clear hb); (try clear hb2); (try clear hk); (try clear hi); have tkA15 : True := trivial) | (go_at_call 15; clear tkA15; (with_reducible refine (emendationref02_Trim.calls kj2 a0 t186 _ A15.out).mono ?_); rintro e w' ⟨rfl, ⟨nd, rfl⟩⟩; have tkA17 : True := trivial) | (go_at_call 17; clear tkA17; (with_reducible refine (lines_Run.calls kj2 a0 a1 t187 _ A17.out).mono ?_); rintro e w' ⟨rfl, ⟨nd, rfl⟩⟩; have tkA18 : True := trivial) | (go_at_call 18; clear tkA18; (with_reducible refine (emendationref02_Run.calls kj2 a0 a1 t188 _ A18.out).mono ?_); rintro e w' ⟨rfl, ⟨nd, rfl⟩⟩; have tkA20 : True := trivial) | (go_at_call 19; clear tkA20; (with_reducible refine (lines_Longest.calls kj2 a0 a1 t189 _ A20.out).mono ?_); rintro e w24 ⟨rfl, hb⟩; have n0_ := Aside0.mk (below_step (by repeat (first | (with_reducible first | exact HB.out | apply below_alloc | apply pw_below_drewN | apply below_drew1) | exact HB.out)) hb); clear HB; have HB := n0_; clear n0_; (try clear hb); (try clear hb2); (try clear hk); (try clear hi); have tkA21 : True := trivial) | (go_at_call 20; clear tkA21; (with_reducible refine (emendationref02_Longest.calls kj2 a0 a1 t190 _ A21.out).mono ?_); rintro e w25 ⟨rfl, hb⟩; have n0_ := Aside0.mk (below_step (by repeat (first | (with_reducible first | exact HB.out | apply below_alloc | apply pw_below_drewN | apply below_drew1) | exact HB.out)) hb); clear HB; have HB := n0_; clear n0_; (try clear hb); (try clear hb2); (try clear hk); (try clear hi)))
              go_ret
              exact ⟨by first | rfl | (simp [errW_none, errW_some] <;> rfl) | (simp [*, errW_none, errW_some] <;> rfl), by repeat (first | (with_reducible first | exact HB.out | apply below_alloc | apply pw_below_drewN | apply below_drew1) | exact HB.out)⟩
            · rw [if_neg c19] at H
              have c19b0 : (t187 == t188) = false := beq_eq_false_iff_ne.mpr c19
              have c19b1 : (t187 != t188) = true := bne_iff_ne.mpr c19
              obtain rfl := Option.some.inj H
              go_wp2_with (first | ((with_reducible refine gate_callee (f := 14) rfl ?_); refine goesL_ (some 14) rfl rfl Tryd.func14 (by kernel_rfl) rfl #[.string a0] rfl (by (try simp only [List.map_toArray, List.map_cons, List.map_nil]); first | done | rfl | (simp only [List.length_drop, List.length_take]; rfl)) ?_; (with_reducible refine (lines_Blank.calls a0 t183 _ A11.out).mono ?_); rintro e w26 ⟨rfl, hb⟩; refine ⟨_, rfl, ?_⟩; have n0_ := Aside0.mk (below_step (by repeat (first | (with_reducible first | exact HB.out | apply below_alloc | apply pw_below_drewN | apply below_drew1) | exact HB.out)) hb); clear HB; have HB := n0_; clear n0_; (try clear hb); (try clear hb2); (try clear hk); (try clear hi)) | ((with_reducible refine gate_callee (f := 15) rfl ?_); refine goesL_ (some 16) rfl rfl Tryd.func15 (by kernel_rfl) rfl #[.string a0] rfl (by (try simp only [List.map_toArray, List.map_cons, List.map_nil]); first | done | rfl | (simp only [List.length_drop, List.length_take]; rfl)) ?_; (with_reducible refine (emendationref02_Trim.calls kj2 a0 t184 _ A12.out).mono ?_); rintro e w' ⟨rfl, ⟨nd, rfl⟩⟩; refine ⟨_, rfl, ?_⟩; have tkA14 : True := trivial) | (go_at_call 16; clear tkA14; (with_reducible refine (lines_Trim.calls a0 t185 _ A14.out).mono ?_); rintro e w27 ⟨rfl, hb⟩; have n0_ := Aside0.mk (below_step (by repeat (first | (with_reducible first | exact HB.out | apply below_alloc | apply pw_below_drewN | apply below_drew1) | exact HB.out)) hb); clear HB; have HB := n0_; clear n0_; (try clear hb); (try clear hb2); (try clear hk); (try clear hi); have tkA15 : True := trivial) | (go_at_call 15; clear tkA15; (with_reducible refine (emendationref02_Trim.calls kj2 a0 t186 _ A15.out).mono ?_); rintro e w' ⟨rfl, ⟨nd, rfl⟩⟩; have tkA17 : True := trivial) | (go_at_call 17; clear tkA17; (with_reducible refine (lines_Run.calls kj2 a0 a1 t187 _ A17.out).mono ?_); rintro e w' ⟨rfl, ⟨nd, rfl⟩⟩; have tkA18 : True := trivial) | (go_at_call 18; clear tkA18; (with_reducible refine (emendationref02_Run.calls kj2 a0 a1 t188 _ A18.out).mono ?_); rintro e w' ⟨rfl, ⟨nd, rfl⟩⟩))
              go_ret
              exact ⟨by first | rfl | (simp [errW_none, errW_some] <;> rfl) | (simp [*, errW_none, errW_some] <;> rfl), by repeat (first | (with_reducible first | exact HB.out | apply below_alloc | apply pw_below_drewN | apply below_drew1) | exact HB.out)⟩
          · rw [if_neg c16] at H
            have c16b0 : (t185.toList == t186.toList) = false := beq_eq_false_iff_ne.mpr c16
            have c16b1 : (t185.toList != t186.toList) = true := bne_iff_ne.mpr c16
            obtain rfl := Option.some.inj H
            go_wp2_with (first | ((with_reducible refine gate_callee (f := 14) rfl ?_); refine goesL_ (some 14) rfl rfl Tryd.func14 (by kernel_rfl) rfl #[.string a0] rfl (by (try simp only [List.map_toArray, List.map_cons, List.map_nil]); first | done | rfl | (simp only [List.length_drop, List.length_take]; rfl)) ?_; (with_reducible refine (lines_Blank.calls a0 t183 _ A11.out).mono ?_); rintro e w28 ⟨rfl, hb⟩; refine ⟨_, rfl, ?_⟩; have n0_ := Aside0.mk (below_step (by repeat (first | (with_reducible first | exact HB.out | apply below_alloc | apply pw_below_drewN | apply below_drew1) | exact HB.out)) hb); clear HB; have HB := n0_; clear n0_; (try clear hb); (try clear hb2); (try clear hk); (try clear hi)) | ((with_reducible refine gate_callee (f := 15) rfl ?_); refine goesL_ (some 16) rfl rfl Tryd.func15 (by kernel_rfl) rfl #[.string a0] rfl (by (try simp only [List.map_toArray, List.map_cons, List.map_nil]); first | done | rfl | (simp only [List.length_drop, List.length_take]; rfl)) ?_; (with_reducible refine (emendationref02_Trim.calls kj2 a0 t184 _ A12.out).mono ?_); rintro e w' ⟨rfl, ⟨nd, rfl⟩⟩; refine ⟨_, rfl, ?_⟩; have tkA14 : True := trivial) | (go_at_call 16; clear tkA14; (with_reducible refine (lines_Trim.calls a0 t185 _ A14.out).mono ?_); rintro e w29 ⟨rfl, hb⟩; have n0_ := Aside0.mk (below_step (by repeat (first | (with_reducible first | exact HB.out | apply below_alloc | apply pw_below_drewN | apply below_drew1) | exact HB.out)) hb); clear HB; have HB := n0_; clear n0_; (try clear hb); (try clear hb2); (try clear hk); (try clear hi); have tkA15 : True := trivial) | (go_at_call 15; clear tkA15; (with_reducible refine (emendationref02_Trim.calls kj2 a0 t186 _ A15.out).mono ?_); rintro e w' ⟨rfl, ⟨nd, rfl⟩⟩))
            go_ret
            exact ⟨by first | rfl | (simp [errW_none, errW_some] <;> rfl) | (simp [*, errW_none, errW_some] <;> rfl), by repeat (first | (with_reducible first | exact HB.out | apply below_alloc | apply pw_below_drewN | apply below_drew1) | exact HB.out)⟩
        · rw [if_neg c13] at H
          have c13b0 : (t183 == (t184.toList == ([] : List UInt8))) = false := by simpa using c13
          (try (have c13b1 : decide (t183 = (t184.toList == ([] : List UInt8))) = false := by simpa using c13))
          (try (have c13b2 : (t183 == (t184.toList == ([] : List UInt8))) = false := by simpa using c13))
          (try (have c13b3 : ¬ (t183 = (t184.toList == ([] : List UInt8))) := by simpa using c13))
          (try (have c13b0e := c13b0; simp only [beq_nil_E] at c13b0e))
          (try (have c13b1e := c13b1; simp only [beq_nil_E] at c13b1e))
          (try (have c13b2e := c13b2; simp only [beq_nil_E] at c13b2e))
          (try (have c13b3e := c13b3; simp only [beq_nil_E] at c13b3e))
          clear c13
          obtain rfl := Option.some.inj H
          go_wp2_with (first | ((with_reducible refine gate_callee (f := 14) rfl ?_); refine goesL_ (some 14) rfl rfl Tryd.func14 (by kernel_rfl) rfl #[.string a0] rfl (by (try simp only [List.map_toArray, List.map_cons, List.map_nil]); first | done | rfl | (simp only [List.length_drop, List.length_take]; rfl)) ?_; (with_reducible refine (lines_Blank.calls a0 t183 _ A11.out).mono ?_); rintro e w30 ⟨rfl, hb⟩; refine ⟨_, rfl, ?_⟩; have n0_ := Aside0.mk (below_step (by repeat (first | (with_reducible first | exact HB.out | apply below_alloc | apply pw_below_drewN | apply below_drew1) | exact HB.out)) hb); clear HB; have HB := n0_; clear n0_; (try clear hb); (try clear hb2); (try clear hk); (try clear hi)) | ((with_reducible refine gate_callee (f := 15) rfl ?_); refine goesL_ (some 16) rfl rfl Tryd.func15 (by kernel_rfl) rfl #[.string a0] rfl (by (try simp only [List.map_toArray, List.map_cons, List.map_nil]); first | done | rfl | (simp only [List.length_drop, List.length_take]; rfl)) ?_; (with_reducible refine (emendationref02_Trim.calls kj2 a0 t184 _ A12.out).mono ?_); rintro e w' ⟨rfl, ⟨nd, rfl⟩⟩; refine ⟨_, rfl, ?_⟩))
          go_ret
          exact ⟨by first | rfl | (simp [errW_none, errW_some] <;> rfl) | (simp [*, errW_none, errW_some] <;> rfl), by repeat (first | (with_reducible first | exact HB.out | apply below_alloc | apply pw_below_drewN | apply below_drew1) | exact HB.out)⟩

/-! ### emendationlaw02_LinesTrims: function 6 -/
mutual
def emendationlaw02_LinesTrims.j0 : Nat → ByteArray → Int → Bool → Option (Bool)
  | 0, _, _, _ => none
  | k + 1, x0, x1, x12 => if x12 = true then ((emendationlaw02_awake.f k).bind fun t192 => (some t192)) else ((lines_Trim.f x0).bind fun t193 => ((lines_Trim.f t193).bind fun t194 => (if t194.toList = t193.toList then (if (t193.size : Int) > (x0.size : Int) then (emendationlaw02_LinesTrims.j1 k x0 t193 true) else ((lines_Run.f k x0 x1).bind fun t195 => ((lines_Longest.f k x0 x1).bind fun t196 => (if t195 > t196 then (emendationlaw02_LinesTrims.j1 k x0 t193 true) else (if x0.size + x0.size ≤ 9223372036854775807 then ((lines_Longest.f k (x0 ++ x0) x1).bind fun t197 => ((lines_Longest.f k x0 x1).bind fun t198 => (emendationlaw02_LinesTrims.j1 k x0 t193 (decide (t197 < t198))))) else (none)))))) else (emendationlaw02_LinesTrims.j1 k x0 t193 true))))
def emendationlaw02_LinesTrims.j1 : Nat → ByteArray → ByteArray → Bool → Option (Bool)
  | 0, _, _, _ => none
  | k + 1, x0, x5, x46 => if x46 = true then (some false) else (if x5.toList = ([] : List UInt8) then ((lines_Blank.f x0).bind fun t199 => (some t199)) else (if 0 < (x5.size : Int) then (if (bt x5 0) = 32 then (some false) else (if (bt x5 0) = 9 then (some false) else (if 0 ≤ (wrap64 ((x5.size : Int) - 1)) then (if (wrap64 ((x5.size : Int) - 1)) < (x5.size : Int) then (if (bt x5 (wrap64 ((x5.size : Int) - 1))) = 32 then (some false) else (if (bt x5 (wrap64 ((x5.size : Int) - 1))) = 9 then (some false) else ((lines_Blank.f x0).bind fun t200 => (some (!t200))))) else (none)) else (none)))) else (none)))
end
def emendationlaw02_LinesTrims.f (k : Nat) (a0 : ByteArray) (a1 : Int) : Option (Bool) := (emendationlaw02_awake.f k).bind fun t191 => (if t191 = true then (emendationlaw02_LinesTrims.j0 k a0 a1 (decide ((a0.size : Int) > 2000))) else (emendationlaw02_LinesTrims.j0 k a0 a1 true))
theorem emendationlaw02_LinesTrims.mono_l : ∀ k, (∀ y0 y1 y2, LeO (emendationlaw02_LinesTrims.j0 k y0 y1 y2) (emendationlaw02_LinesTrims.j0 (k + 1) y0 y1 y2)) ∧ (∀ y0 y1 y2, LeO (emendationlaw02_LinesTrims.j1 k y0 y1 y2) (emendationlaw02_LinesTrims.j1 (k + 1) y0 y1 y2))
  | 0 => ⟨fun _ _ _ r h => by simp [emendationlaw02_LinesTrims.j0] at h, fun _ _ _ r h => by simp [emendationlaw02_LinesTrims.j1] at h⟩
  | k + 1 => by
    obtain ⟨ih0, ih1⟩ := emendationlaw02_LinesTrims.mono_l k
    refine ⟨?_, ?_⟩
    · intro y0 y1 y2
      unfold emendationlaw02_LinesTrims.j0
      repeat' first
      | (with_reducible exact ih0 _ _ _)
      | (with_reducible exact ih1 _ _ _)
      | (with_reducible exact emendationlaw02_awake.mono _)
      | (with_reducible exact lines_Longest.mono _ _ _)
      | (with_reducible exact lines_Run.mono _ _ _)
      | (with_reducible exact LeO.refl _)
      | (with_reducible exact LeO.none _)
      | (with_reducible refine LeO.ite ?_ ?_)
      | (with_reducible refine LeO.bind ?_ (fun _ => ?_))
      | exact ih0 _ _ _
      | exact ih1 _ _ _
      | exact emendationlaw02_awake.mono _
      | exact lines_Longest.mono _ _ _
      | exact lines_Run.mono _ _ _
      | exact LeO.none _
      | refine LeO.ite ?_ ?_
      | refine LeO.bind ?_ (fun _ => ?_)
    · intro y0 y1 y2
      unfold emendationlaw02_LinesTrims.j1
      repeat' first
      | (with_reducible exact ih0 _ _ _)
      | (with_reducible exact ih1 _ _ _)
      | (with_reducible exact emendationlaw02_awake.mono _)
      | (with_reducible exact lines_Longest.mono _ _ _)
      | (with_reducible exact lines_Run.mono _ _ _)
      | (with_reducible exact LeO.refl _)
      | (with_reducible exact LeO.none _)
      | (with_reducible refine LeO.ite ?_ ?_)
      | (with_reducible refine LeO.bind ?_ (fun _ => ?_))
      | exact ih0 _ _ _
      | exact ih1 _ _ _
      | exact emendationlaw02_awake.mono _
      | exact lines_Longest.mono _ _ _
      | exact lines_Run.mono _ _ _
      | exact LeO.none _
      | refine LeO.ite ?_ ?_
      | refine LeO.bind ?_ (fun _ => ?_)
theorem emendationlaw02_LinesTrims.mono : ∀ a0 a1 k, LeO (emendationlaw02_LinesTrims.f k a0 a1) (emendationlaw02_LinesTrims.f (k + 1) a0 a1) := by
  intro a0 a1 k
  obtain ⟨ih0, ih1⟩ := emendationlaw02_LinesTrims.mono_l k
  unfold emendationlaw02_LinesTrims.f
  repeat' first
      | (with_reducible exact ih0 _ _ _)
      | (with_reducible exact ih1 _ _ _)
      | (with_reducible exact emendationlaw02_awake.mono _)
      | (with_reducible exact lines_Longest.mono _ _ _)
      | (with_reducible exact lines_Run.mono _ _ _)
      | (with_reducible exact LeO.refl _)
      | (with_reducible exact LeO.none _)
      | (with_reducible refine LeO.ite ?_ ?_)
      | (with_reducible refine LeO.bind ?_ (fun _ => ?_))
      | exact ih0 _ _ _
      | exact ih1 _ _ _
      | exact emendationlaw02_awake.mono _
      | exact lines_Longest.mono _ _ _
      | exact lines_Run.mono _ _ _
      | exact LeO.none _
      | refine LeO.ite ?_ ?_
      | refine LeO.bind ?_ (fun _ => ?_)
set_option maxHeartbeats 8000000 in
set_option maxRecDepth 100000 in
theorem emendationlaw02_LinesTrims.calls (k : Nat) (a0 : ByteArray) (a1 : Int) (r : Bool) (w : World) (h : emendationlaw02_LinesTrims.f k a0 a1 = some r) :
    Calls Tryd.prog 6 #[.string a0, .int .u8 a1] w fun e w' => e = .returned (.bool r) ∧ Below w.heap.size w w' := by
  have HB := Aside0.mk (Below.refl w.heap.size w)
  have H : ((emendationlaw02_awake.f k).bind fun t191 => (if t191 = true then (emendationlaw02_LinesTrims.j0 k a0 a1 (decide ((a0.size : Int) > 2000))) else (emendationlaw02_LinesTrims.j0 k a0 a1 true))) = some r := h
  clear h
  have HC3 := Aside0.mk H
  clear H
  go_enter Tryd.func6, Tryd.ntmps6
  go_upto_region 1 with (fail)
  go_cut [12] (fun v12 wc => ∃ (kq : Nat) (x12_2 : Bool), v12 = .bool x12_2 ∧ Aside0 (emendationlaw02_LinesTrims.j0 kq a0 a1 x12_2 = some r) ∧ Aside0 (kq ≤ k) ∧ Aside0 (Below w.heap.size w wc))
  case first =>
    have H := HC3.out
    clear HC3
    replace H := Option.bind_eq_some_iff.mp H
    obtain ⟨t191, A40, H⟩ := H
    replace H : (if t191 = true then (emendationlaw02_LinesTrims.j0 k a0 a1 (decide ((a0.size : Int) > 2000))) else (emendationlaw02_LinesTrims.j0 k a0 a1 true)) = some r := H
    have A4 := Aside0.mk A40
    clear A40
    by_cases c5 : t191 = true
    · subst c5
      have H1 : (emendationlaw02_LinesTrims.j0 k a0 a1 (decide ((a0.size : Int) > 2000))) = some r := by rw [if_pos rfl] at H; exact H
      clear H
      have H := H1
      clear H1
      have H' := Aside0.mk H
      clear H
      go_wp2_with (first | ((with_reducible refine gate_callee (f := 10) rfl ?_); refine goesL_ (some 6) rfl rfl Tryd.func10 (by kernel_rfl) rfl #[] rfl (by (try simp only [List.map_toArray, List.map_cons, List.map_nil]); first | done | rfl | (simp only [List.length_drop, List.length_take]; rfl)) ?_; (with_reducible refine (emendationlaw02_awake.calls k  true _ A4.out).mono ?_); rintro e w6 ⟨rfl, hb⟩; refine ⟨_, rfl, ?_⟩; have n0_ := Aside0.mk (below_step (by repeat (first | (with_reducible first | exact HB.out | apply below_alloc | apply pw_below_drewN | apply below_drew1) | exact HB.out)) hb); clear HB; have HB := n0_; clear n0_; (try clear hb); (try clear hb2); (try clear hk); (try clear hi)))
      go_meet
      case rel => exact ⟨_, (decide ((a0.size : Int) > 2000)), (by first | rfl | (simp; done) | (simp [*]; done)), H', ⟨by first | omega | exact Nat.le_refl _⟩, ⟨by repeat (first | (with_reducible first | exact HB.out | apply below_alloc | apply pw_below_drewN | apply below_drew1) | exact HB.out)⟩⟩
    · replace c5 := Bool.eq_false_iff.mpr c5
      subst c5
      have H1 : (emendationlaw02_LinesTrims.j0 k a0 a1 true) = some r := by rw [if_neg (show ¬ (false = true) by decide)] at H; exact H
      clear H
      have H := H1
      clear H1
      have H' := Aside0.mk H
      clear H
      go_wp2_with (first | ((with_reducible refine gate_callee (f := 10) rfl ?_); refine goesL_ (some 6) rfl rfl Tryd.func10 (by kernel_rfl) rfl #[] rfl (by (try simp only [List.map_toArray, List.map_cons, List.map_nil]); first | done | rfl | (simp only [List.length_drop, List.length_take]; rfl)) ?_; (with_reducible refine (emendationlaw02_awake.calls k  false _ A4.out).mono ?_); rintro e w7 ⟨rfl, hb⟩; refine ⟨_, rfl, ?_⟩; have n0_ := Aside0.mk (below_step (by repeat (first | (with_reducible first | exact HB.out | apply below_alloc | apply pw_below_drewN | apply below_drew1) | exact HB.out)) hb); clear HB; have HB := n0_; clear n0_; (try clear hb); (try clear hb2); (try clear hk); (try clear hi)))
      go_meet
      case rel => exact ⟨_, (true), (by first | rfl | (simp; done) | (simp [*]; done)), H', ⟨by first | omega | exact Nat.le_refl _⟩, ⟨by repeat (first | (with_reducible first | exact HB.out | apply below_alloc | apply pw_below_drewN | apply below_drew1) | exact HB.out)⟩⟩
  case rest =>
    clear HC3
    try clear c1
    try clear p2
    try clear c5
    try clear c6
    obtain ⟨kq, x12_2, rfl, HA, HJ2, HB⟩ := hcut
    cases kq with
    | zero => exact absurd HA.out (by simp [emendationlaw02_LinesTrims.j0])
    | succ kj2 =>
      have H := HA.out
      clear HA
      simp only [emendationlaw02_LinesTrims.j0] at H
      by_cases c8 : x12_2 = true
      · subst c8
        have H1 : ((emendationlaw02_awake.f kj2).bind fun t192 => (some t192)) = some r := by rw [if_pos rfl] at H; exact H
        clear H
        have H := H1
        clear H1
        replace H := Option.bind_eq_some_iff.mp H
        obtain ⟨t192, A90, H⟩ := H
        replace H : (some t192) = some r := H
        have A9 := Aside0.mk A90
        clear A90
        obtain rfl := Option.some.inj H
        go_wp2_with (first | ((with_reducible refine gate_callee (f := 10) rfl ?_); refine goesL_ (some 13) rfl rfl Tryd.func10 (by kernel_rfl) rfl #[] rfl (by (try simp only [List.map_toArray, List.map_cons, List.map_nil]); first | done | rfl | (simp only [List.length_drop, List.length_take]; rfl)) ?_; (with_reducible refine (emendationlaw02_awake.calls kj2  t192 _ A9.out).mono ?_); rintro e w10 ⟨rfl, hb⟩; refine ⟨_, rfl, ?_⟩; have n0_ := Aside0.mk (below_step (by repeat (first | (with_reducible first | exact HB.out | apply below_alloc | apply pw_below_drewN | apply below_drew1) | exact HB.out)) hb); clear HB; have HB := n0_; clear n0_; (try clear hb); (try clear hb2); (try clear hk); (try clear hi)))
        go_ret
        exact ⟨by first | rfl | (simp [errW_none, errW_some] <;> rfl) | (simp [*, errW_none, errW_some] <;> rfl), by repeat (first | (with_reducible first | exact HB.out | apply below_alloc | apply pw_below_drewN | apply below_drew1) | exact HB.out)⟩
      · replace c8 := Bool.eq_false_iff.mpr c8
        subst c8
        have H1 : ((lines_Trim.f a0).bind fun t193 => ((lines_Trim.f t193).bind fun t194 => (if t194.toList = t193.toList then (if (t193.size : Int) > (a0.size : Int) then (emendationlaw02_LinesTrims.j1 kj2 a0 t193 true) else ((lines_Run.f kj2 a0 a1).bind fun t195 => ((lines_Longest.f kj2 a0 a1).bind fun t196 => (if t195 > t196 then (emendationlaw02_LinesTrims.j1 kj2 a0 t193 true) else (if a0.size + a0.size ≤ 9223372036854775807 then ((lines_Longest.f kj2 (a0 ++ a0) a1).bind fun t197 => ((lines_Longest.f kj2 a0 a1).bind fun t198 => (emendationlaw02_LinesTrims.j1 kj2 a0 t193 (decide (t197 < t198))))) else (none)))))) else (emendationlaw02_LinesTrims.j1 kj2 a0 t193 true)))) = some r := by rw [if_neg (show ¬ (false = true) by decide)] at H; exact H
        clear H
        have H := H1
        clear H1
        replace H := Option.bind_eq_some_iff.mp H
        obtain ⟨t193, A110, H⟩ := H
        replace H : ((lines_Trim.f t193).bind fun t194 => (if t194.toList = t193.toList then (if (t193.size : Int) > (a0.size : Int) then (emendationlaw02_LinesTrims.j1 kj2 a0 t193 true) else ((lines_Run.f kj2 a0 a1).bind fun t195 => ((lines_Longest.f kj2 a0 a1).bind fun t196 => (if t195 > t196 then (emendationlaw02_LinesTrims.j1 kj2 a0 t193 true) else (if a0.size + a0.size ≤ 9223372036854775807 then ((lines_Longest.f kj2 (a0 ++ a0) a1).bind fun t197 => ((lines_Longest.f kj2 a0 a1).bind fun t198 => (emendationlaw02_LinesTrims.j1 kj2 a0 t193 (decide (t197 < t198))))) else (none)))))) else (emendationlaw02_LinesTrims.j1 kj2 a0 t193 true))) = some r := H
        have A11 := Aside0.mk A110
        clear A110
        have HC12 := Aside0.mk H
        clear H
        go_upto_region 4 with (first | ((with_reducible refine gate_callee (f := 16) rfl ?_); refine goesL_ (some 15) rfl rfl Tryd.func16 (by kernel_rfl) rfl #[.string a0] rfl (by (try simp only [List.map_toArray, List.map_cons, List.map_nil]); first | done | rfl | (simp only [List.length_drop, List.length_take]; rfl)) ?_; (with_reducible refine (lines_Trim.calls a0 t193 _ A11.out).mono ?_); rintro e w13 ⟨rfl, hb⟩; refine ⟨_, rfl, ?_⟩; have n0_ := Aside0.mk (below_step (by repeat (first | (with_reducible first | exact HB.out | apply below_alloc | apply pw_below_drewN | apply below_drew1) | exact HB.out)) hb); clear HB; have HB := n0_; clear n0_; (try clear hb); (try clear hb2); (try clear hk); (try clear hi)))
        (try simp only [Act.put, List.setIfInBounds_toArray, List.set_cons_zero, List.set_cons_succ])
        go_cut [46] (fun v46 wc => ∃ (kq : Nat) (x46_11 : Bool), v46 = .bool x46_11 ∧ Aside0 (emendationlaw02_LinesTrims.j1 kq a0 t193 x46_11 = some r) ∧ Aside0 (kq ≤ kj2) ∧ Aside0 (Below w.heap.size w wc))
        case first =>
          have H := HC12.out
          clear HC12
          replace H := Option.bind_eq_some_iff.mp H
          obtain ⟨t194, A140, H⟩ := H
          replace H : (if t194.toList = t193.toList then (if (t193.size : Int) > (a0.size : Int) then (emendationlaw02_LinesTrims.j1 kj2 a0 t193 true) else ((lines_Run.f kj2 a0 a1).bind fun t195 => ((lines_Longest.f kj2 a0 a1).bind fun t196 => (if t195 > t196 then (emendationlaw02_LinesTrims.j1 kj2 a0 t193 true) else (if a0.size + a0.size ≤ 9223372036854775807 then ((lines_Longest.f kj2 (a0 ++ a0) a1).bind fun t197 => ((lines_Longest.f kj2 a0 a1).bind fun t198 => (emendationlaw02_LinesTrims.j1 kj2 a0 t193 (decide (t197 < t198))))) else (none)))))) else (emendationlaw02_LinesTrims.j1 kj2 a0 t193 true)) = some r := H
          have A14 := Aside0.mk A140
          clear A140
          by_cases c15 : t194.toList = t193.toList
          · rw [if_pos c15] at H
            have c15b0 : (t194.toList == t193.toList) = true := beq_iff_eq.mpr c15
            have c15b1 : (t194.toList != t193.toList) = false := bne_eq_false_iff_eq.mpr c15
            clear c15
            (first | rw [c15b0] | (simp only [i64_w, i32_w]; rw [c15b0]) | skip)
            by_cases c16 : (t193.size : Int) > (a0.size : Int)
            · rw [if_pos c16] at H
              have c16b0 : decide ((a0.size : Int) < (t193.size : Int)) = true := decide_eq_true c16
              have c16b1 : decide (a0.size < t193.size) = true := decide_eq_true (Int.ofNat_lt.mp c16)
              clear c16
              have H' := Aside0.mk H
              clear H
              go_wp2_with (first | ((with_reducible refine gate_callee (f := 16) rfl ?_); refine goesL_ (some 17) rfl rfl Tryd.func16 (by kernel_rfl) rfl #[.string t193] rfl (by (try simp only [List.map_toArray, List.map_cons, List.map_nil]); first | done | rfl | (simp only [List.length_drop, List.length_take]; rfl)) ?_; (with_reducible refine (lines_Trim.calls t193 t194 _ A14.out).mono ?_); rintro e w17 ⟨rfl, hb⟩; refine ⟨_, rfl, ?_⟩; have n0_ := Aside0.mk (below_step (by repeat (first | (with_reducible first | exact HB.out | apply below_alloc | apply pw_below_drewN | apply below_drew1) | exact HB.out)) hb); clear HB; have HB := n0_; clear n0_; (try clear hb); (try clear hb2); (try clear hk); (try clear hi)))
              go_meet
              case rel => exact ⟨_, (true), (by first | rfl | (simp; done) | (simp [*]; done)), H', ⟨by have := HJ2.out; first | omega | exact Nat.le_refl _⟩, ⟨by repeat (first | (with_reducible first | exact HB.out | apply below_alloc | apply pw_below_drewN | apply below_drew1) | exact HB.out)⟩⟩
            · rw [if_neg c16] at H
              have c16b0 : decide ((a0.size : Int) < (t193.size : Int)) = false := decide_eq_false c16
              have c16b1 : decide (a0.size < t193.size) = false := decide_eq_false (fun h => c16 (Int.ofNat_lt.mpr h))
              clear c16
              replace H := Option.bind_eq_some_iff.mp H
              obtain ⟨t195, A180, H⟩ := H
              replace H : ((lines_Longest.f kj2 a0 a1).bind fun t196 => (if t195 > t196 then (emendationlaw02_LinesTrims.j1 kj2 a0 t193 true) else (if a0.size + a0.size ≤ 9223372036854775807 then ((lines_Longest.f kj2 (a0 ++ a0) a1).bind fun t197 => ((lines_Longest.f kj2 a0 a1).bind fun t198 => (emendationlaw02_LinesTrims.j1 kj2 a0 t193 (decide (t197 < t198))))) else (none)))) = some r := H
              have A18 := Aside0.mk A180
              clear A180
              replace H := Option.bind_eq_some_iff.mp H
              obtain ⟨t196, A190, H⟩ := H
              replace H : (if t195 > t196 then (emendationlaw02_LinesTrims.j1 kj2 a0 t193 true) else (if a0.size + a0.size ≤ 9223372036854775807 then ((lines_Longest.f kj2 (a0 ++ a0) a1).bind fun t197 => ((lines_Longest.f kj2 a0 a1).bind fun t198 => (emendationlaw02_LinesTrims.j1 kj2 a0 t193 (decide (t197 < t198))))) else (none))) = some r := H
              have A19 := Aside0.mk A190
              clear A190
              by_cases c20 : t195 > t196
              · rw [if_pos c20] at H
                have c20b0 : decide (t196 < t195) = true := decide_eq_true c20
                clear c20
                have H' := Aside0.mk H
                clear H
                go_wp2_with (first | ((with_reducible refine gate_callee (f := 16) rfl ?_); refine goesL_ (some 17) rfl rfl Tryd.func16 (by kernel_rfl) rfl #[.string t193] rfl (by (try simp only [List.map_toArray, List.map_cons, List.map_nil]); first | done | rfl | (simp only [List.length_drop, List.length_take]; rfl)) ?_; (with_reducible refine (lines_Trim.calls t193 t194 _ A14.out).mono ?_); rintro e w21 ⟨rfl, hb⟩; refine ⟨_, rfl, ?_⟩; have n0_ := Aside0.mk (below_step (by repeat (first | (with_reducible first | exact HB.out | apply below_alloc | apply pw_below_drewN | apply below_drew1) | exact HB.out)) hb); clear HB; have HB := n0_; clear n0_; (try clear hb); (try clear hb2); (try clear hk); (try clear hi); have tkA18 : True := trivial) | (go_at_call 17; clear tkA18; (with_reducible refine (lines_Run.calls kj2 a0 a1 t195 _ A18.out).mono ?_); rintro e w' ⟨rfl, ⟨nd, rfl⟩⟩; have tkA19 : True := trivial) | (go_at_call 19; clear tkA19; (with_reducible refine (lines_Longest.calls kj2 a0 a1 t196 _ A19.out).mono ?_); rintro e w22 ⟨rfl, hb⟩; have n0_ := Aside0.mk (below_step (by repeat (first | (with_reducible first | exact HB.out | apply below_alloc | apply pw_below_drewN | apply below_drew1) | exact HB.out)) hb); clear HB; have HB := n0_; clear n0_; (try clear hb); (try clear hb2); (try clear hk); (try clear hi)))
                go_meet
                case rel => exact ⟨_, (true), (by first | rfl | (simp; done) | (simp [*]; done)), H', ⟨by have := HJ2.out; first | omega | exact Nat.le_refl _⟩, ⟨by repeat (first | (with_reducible first | exact HB.out | apply below_alloc | apply pw_below_drewN | apply below_drew1) | exact HB.out)⟩⟩
              · rw [if_neg c20] at H
                have c20b0 : decide (t196 < t195) = false := decide_eq_false c20
                clear c20
                by_cases c23 : a0.size + a0.size ≤ 9223372036854775807
                · rw [if_pos c23] at H
                  have c23b0 := eq_true c23
                  have c23b1 : decide (a0.size + a0.size ≤ 9223372036854775807) = true := decide_eq_true c23
                  try have c23b2 : (9223372036854775807 < a0.size + a0.size) = False := eq_false (Nat.not_lt.2 c23)
                  replace H := Option.bind_eq_some_iff.mp H
                  obtain ⟨t197, A240, H⟩ := H
                  replace H : ((lines_Longest.f kj2 a0 a1).bind fun t198 => (emendationlaw02_LinesTrims.j1 kj2 a0 t193 (decide (t197 < t198)))) = some r := H
                  have A24 := Aside0.mk A240
                  clear A240
                  replace H := Option.bind_eq_some_iff.mp H
                  obtain ⟨t198, A250, H⟩ := H
                  replace H : (emendationlaw02_LinesTrims.j1 kj2 a0 t193 (decide (t197 < t198))) = some r := H
                  have A25 := Aside0.mk A250
                  clear A250
                  have H' := Aside0.mk H
                  clear H
                  go_wp2_with (first | ((with_reducible refine gate_callee (f := 16) rfl ?_); refine goesL_ (some 17) rfl rfl Tryd.func16 (by kernel_rfl) rfl #[.string t193] rfl (by (try simp only [List.map_toArray, List.map_cons, List.map_nil]); first | done | rfl | (simp only [List.length_drop, List.length_take]; rfl)) ?_; (with_reducible refine (lines_Trim.calls t193 t194 _ A14.out).mono ?_); rintro e w26 ⟨rfl, hb⟩; refine ⟨_, rfl, ?_⟩; have n0_ := Aside0.mk (below_step (by repeat (first | (with_reducible first | exact HB.out | apply below_alloc | apply pw_below_drewN | apply below_drew1) | exact HB.out)) hb); clear HB; have HB := n0_; clear n0_; (try clear hb); (try clear hb2); (try clear hk); (try clear hi); have tkA18 : True := trivial) | (go_at_call 17; clear tkA18; (with_reducible refine (lines_Run.calls kj2 a0 a1 t195 _ A18.out).mono ?_); rintro e w' ⟨rfl, ⟨nd, rfl⟩⟩; have tkA19 : True := trivial) | (go_at_call 19; clear tkA19; (with_reducible refine (lines_Longest.calls kj2 a0 a1 t196 _ A19.out).mono ?_); rintro e w27 ⟨rfl, hb⟩; have n0_ := Aside0.mk (below_step (by repeat (first | (with_reducible first | exact HB.out | apply below_alloc | apply pw_below_drewN | apply below_drew1) | exact HB.out)) hb); clear HB; have HB := n0_; clear n0_; (try clear hb); (try clear hb2); (try clear hk); (try clear hi); have tkA24 : True := trivial) | (go_at_call 19; clear tkA24; (with_reducible refine (lines_Longest.calls kj2 (a0 ++ a0) a1 t197 _ A24.out).mono ?_); rintro e w28 ⟨rfl, hb⟩; have n0_ := Aside0.mk (below_step (by repeat (first | (with_reducible first | exact HB.out | apply below_alloc | apply pw_below_drewN | apply below_drew1) | exact HB.out)) hb); clear HB; have HB := n0_; clear n0_; (try clear hb); (try clear hb2); (try clear hk); (try clear hi); have tkA25 : True := trivial) | (go_at_call 19; clear tkA25; (with_reducible refine (lines_Longest.calls kj2 a0 a1 t198 _ A25.out).mono ?_); rintro e w29 ⟨rfl, hb⟩; have n0_ := Aside0.mk (below_step (by repeat (first | (with_reducible first | exact HB.out | apply below_alloc | apply pw_below_drewN | apply below_drew1) | exact HB.out)) hb); clear HB; have HB := n0_; clear n0_; (try clear hb); (try clear hb2); (try clear hk); (try clear hi)))
                  go_meet
                  case rel => exact ⟨_, (decide (t197 < t198)), (by first | rfl | (simp; done) | (simp [*]; done)), H', ⟨by have := HJ2.out; first | omega | exact Nat.le_refl _⟩, ⟨by repeat (first | (with_reducible first | exact HB.out | apply below_alloc | apply pw_below_drewN | apply below_drew1) | exact HB.out)⟩⟩
                · rw [if_neg c23] at H
                  exact absurd H (by simp)
          · rw [if_neg c15] at H
            have c15b0 : (t194.toList == t193.toList) = false := beq_eq_false_iff_ne.mpr c15
            have c15b1 : (t194.toList != t193.toList) = true := bne_iff_ne.mpr c15
            (first | rw [c15b0] | (simp only [i64_w, i32_w]; rw [c15b0]) | skip)
            have H' := Aside0.mk H
            clear H
            go_wp2_with (first | ((with_reducible refine gate_callee (f := 16) rfl ?_); refine goesL_ (some 17) rfl rfl Tryd.func16 (by kernel_rfl) rfl #[.string t193] rfl (by (try simp only [List.map_toArray, List.map_cons, List.map_nil]); first | done | rfl | (simp only [List.length_drop, List.length_take]; rfl)) ?_; (with_reducible refine (lines_Trim.calls t193 t194 _ A14.out).mono ?_); rintro e w30 ⟨rfl, hb⟩; refine ⟨_, rfl, ?_⟩; have n0_ := Aside0.mk (below_step (by repeat (first | (with_reducible first | exact HB.out | apply below_alloc | apply pw_below_drewN | apply below_drew1) | exact HB.out)) hb); clear HB; have HB := n0_; clear n0_; (try clear hb); (try clear hb2); (try clear hk); (try clear hi)))
            go_meet
            case rel => exact ⟨_, (true), (by first | rfl | (simp; done) | (simp [*]; done)), H', ⟨by have := HJ2.out; first | omega | exact Nat.le_refl _⟩, ⟨by repeat (first | (with_reducible first | exact HB.out | apply below_alloc | apply pw_below_drewN | apply below_drew1) | exact HB.out)⟩⟩
        case rest =>
          clear HC12
          try clear c1
          try clear c2
          try clear p2
          try clear c5
          try clear c6
          try clear c8
          try clear c10
          try clear c15
          try clear c15b0
          try clear c15b1
          try clear c16
          try clear c16b0
          try clear c16b1
          try clear c20
          try clear c20b0
          try clear c23
          try clear c23b0
          try clear c23b1
          try clear c23b2
          try clear p2
          obtain ⟨kq, x46_11, rfl, HA, HJ11, HB⟩ := hcut
          cases kq with
          | zero => exact absurd HA.out (by simp [emendationlaw02_LinesTrims.j1])
          | succ kj11 =>
            have H := HA.out
            clear HA
            simp only [emendationlaw02_LinesTrims.j1] at H
            by_cases c31 : x46_11 = true
            · subst c31
              have H1 : (some false) = some r := by rw [if_pos rfl] at H; exact H
              clear H
              have H := H1
              clear H1
              obtain rfl := Option.some.inj H
              go_wp2
              go_ret
              exact ⟨by first | rfl | (simp [errW_none, errW_some] <;> rfl) | (simp [*, errW_none, errW_some] <;> rfl), by repeat (first | (with_reducible first | exact HB.out | apply below_alloc | apply pw_below_drewN | apply below_drew1) | exact HB.out)⟩
            · replace c31 := Bool.eq_false_iff.mpr c31
              subst c31
              have H1 : (if t193.toList = ([] : List UInt8) then ((lines_Blank.f a0).bind fun t199 => (some t199)) else (if 0 < (t193.size : Int) then (if (bt t193 0) = 32 then (some false) else (if (bt t193 0) = 9 then (some false) else (if 0 ≤ (wrap64 ((t193.size : Int) - 1)) then (if (wrap64 ((t193.size : Int) - 1)) < (t193.size : Int) then (if (bt t193 (wrap64 ((t193.size : Int) - 1))) = 32 then (some false) else (if (bt t193 (wrap64 ((t193.size : Int) - 1))) = 9 then (some false) else ((lines_Blank.f a0).bind fun t200 => (some (!t200))))) else (none)) else (none)))) else (none))) = some r := by rw [if_neg (show ¬ (false = true) by decide)] at H; exact H
              clear H
              have H := H1
              clear H1
              by_cases c32 : t193.toList = ([] : List UInt8)
              · rw [if_pos c32] at H
                have c32b0 : (t193.toList == ([] : List UInt8)) = true := beq_iff_eq.mpr c32
                have c32b1 : (t193.toList != ([] : List UInt8)) = false := bne_eq_false_iff_eq.mpr c32
                (try (have c32b0e := c32b0; simp only [beq_nil_E] at c32b0e))
                clear c32
                replace H := Option.bind_eq_some_iff.mp H
                obtain ⟨t199, A330, H⟩ := H
                replace H : (some t199) = some r := H
                have A33 := Aside0.mk A330
                clear A330
                obtain rfl := Option.some.inj H
                go_wp2_with (first | ((with_reducible refine gate_callee (f := 14) rfl ?_); refine goesL_ (some 50) rfl rfl Tryd.func14 (by kernel_rfl) rfl #[.string a0] rfl (by (try simp only [List.map_toArray, List.map_cons, List.map_nil]); first | done | rfl | (simp only [List.length_drop, List.length_take]; rfl)) ?_; (with_reducible refine (lines_Blank.calls a0 t199 _ A33.out).mono ?_); rintro e w34 ⟨rfl, hb⟩; refine ⟨_, rfl, ?_⟩; have n0_ := Aside0.mk (below_step (by repeat (first | (with_reducible first | exact HB.out | apply below_alloc | apply pw_below_drewN | apply below_drew1) | exact HB.out)) hb); clear HB; have HB := n0_; clear n0_; (try clear hb); (try clear hb2); (try clear hk); (try clear hi)))
                go_ret
                exact ⟨by first | rfl | (simp [errW_none, errW_some] <;> rfl) | (simp [*, errW_none, errW_some] <;> rfl), by repeat (first | (with_reducible first | exact HB.out | apply below_alloc | apply pw_below_drewN | apply below_drew1) | exact HB.out)⟩
              · rw [if_neg c32] at H
                have c32b0 : (t193.toList == ([] : List UInt8)) = false := beq_eq_false_iff_ne.mpr c32
                have c32b1 : (t193.toList != ([] : List UInt8)) = true := bne_iff_ne.mpr c32
                (try (have c32b0e := c32b0; simp only [beq_nil_E] at c32b0e))
                by_cases c35 : 0 < (t193.size : Int)
                · rw [if_pos c35] at H
                  have c35b0 : decide (0 < (t193.size : Int)) = true := decide_eq_true c35
                  have c35b1 : decide (0 < t193.size) = true := decide_eq_true (by omega)
                  clear c35
                  by_cases c37 : (bt t193 0) = 32
                  · rw [if_pos c37] at H
                    have c37b0 : ((bt t193 0) == 32) = true := beq_iff_eq.mpr c37
                    have c37b1 : ((bt t193 0) != 32) = false := bne_eq_false_iff_eq.mpr c37
                    clear c37
                    obtain rfl := Option.some.inj H
                    have p36 : 0 ≤ (0 : Int) := (by omega)
                    have q36 : 0 < t193.size := (by have : (0 : Int) < (t193.size : Int) := of_decide_eq_true (by first | (with_reducible assumption) | assumption); omega)
                    have hx36 : ∀ h : 0 < t193.size, ((t193[0]'h).toNat : Int) = bt t193 0 := bt_at t193 0
                    clear p36
                    have qi36 : (0 < (t193.size : Int)) = True := eq_true (of_decide_eq_true (by first | (with_reducible assumption) | assumption))
                    replace q36 := eq_true q36
                    go_wp2
                    go_ret
                    exact ⟨by first | rfl | (simp [errW_none, errW_some] <;> rfl) | (simp [*, errW_none, errW_some] <;> rfl), by repeat (first | (with_reducible first | exact HB.out | apply below_alloc | apply pw_below_drewN | apply below_drew1) | exact HB.out)⟩
                  · rw [if_neg c37] at H
                    have c37b0 : ((bt t193 0) == 32) = false := beq_eq_false_iff_ne.mpr c37
                    have c37b1 : ((bt t193 0) != 32) = true := bne_iff_ne.mpr c37
                    by_cases c39 : (bt t193 0) = 9
                    · rw [if_pos c39] at H
                      have c39b0 : ((bt t193 0) == 9) = true := beq_iff_eq.mpr c39
                      have c39b1 : ((bt t193 0) != 9) = false := bne_eq_false_iff_eq.mpr c39
                      clear c39
                      obtain rfl := Option.some.inj H
                      have p36 : 0 ≤ (0 : Int) := (by omega)
                      have q36 : 0 < t193.size := (by have : (0 : Int) < (t193.size : Int) := of_decide_eq_true (by first | (with_reducible assumption) | assumption); omega)
                      have hx36 : ∀ h : 0 < t193.size, ((t193[0]'h).toNat : Int) = bt t193 0 := bt_at t193 0
                      clear p36
                      have qi36 : (0 < (t193.size : Int)) = True := eq_true (of_decide_eq_true (by first | (with_reducible assumption) | assumption))
                      replace q36 := eq_true q36
                      have p38 : 0 ≤ (0 : Int) := (by omega)
                      have q38 : 0 < t193.size := (by have : (0 : Int) < (t193.size : Int) := of_decide_eq_true (by first | (with_reducible assumption) | assumption); omega)
                      have hx38 : ∀ h : 0 < t193.size, ((t193[0]'h).toNat : Int) = bt t193 0 := bt_at t193 0
                      clear p38
                      have qi38 : (0 < (t193.size : Int)) = True := eq_true (of_decide_eq_true (by first | (with_reducible assumption) | assumption))
                      replace q38 := eq_true q38
                      go_wp2
                      go_ret
                      exact ⟨by first | rfl | (simp [errW_none, errW_some] <;> rfl) | (simp [*, errW_none, errW_some] <;> rfl), by repeat (first | (with_reducible first | exact HB.out | apply below_alloc | apply pw_below_drewN | apply below_drew1) | exact HB.out)⟩
                    · rw [if_neg c39] at H
                      have c39b0 : ((bt t193 0) == 9) = false := beq_eq_false_iff_ne.mpr c39
                      have c39b1 : ((bt t193 0) != 9) = true := bne_iff_ne.mpr c39
                      obtain ⟨ji40, hji40⟩ : ∃ j_ : Int, (wrap64 ((t193.size : Int) - 1)) = j_ := ⟨_, rfl⟩
                      replace H : (if 0 ≤ (ji40) then (if (ji40) < (t193.size : Int) then (if (bt t193 (ji40)) = 32 then (some false) else (if (bt t193 (ji40)) = 9 then (some false) else ((lines_Blank.f a0).bind fun t200 => (some (!t200))))) else (none)) else (none)) = some r := by first | (rw [hji40] at H; exact H) | (simp only [hji40] at H ⊢; exact H)
                      have hji40w : (IntKind.i64.wrap ((t193.size : Int) - 1)) = ji40 := (i64_w _).trans hji40
                      by_cases c41 : 0 ≤ (ji40)
                      · rw [if_pos c41] at H
                        have c41b0 : decide (0 ≤ (ji40)) = true := decide_eq_true c41
                        clear c41
                        by_cases c42 : (ji40) < (t193.size : Int)
                        · rw [if_pos c42] at H
                          have c42b0 : decide ((ji40) < (t193.size : Int)) = true := decide_eq_true c42
                          clear c42
                          by_cases c44 : (bt t193 (ji40)) = 32
                          · rw [if_pos c44] at H
                            have c44b0 : ((bt t193 (ji40)) == 32) = true := beq_iff_eq.mpr c44
                            have c44b1 : ((bt t193 (ji40)) != 32) = false := bne_eq_false_iff_eq.mpr c44
                            clear c44
                            obtain rfl := Option.some.inj H
                            have p36 : 0 ≤ (0 : Int) := (by omega)
                            have q36 : 0 < t193.size := (by have : (0 : Int) < (t193.size : Int) := of_decide_eq_true (by first | (with_reducible assumption) | assumption); omega)
                            have hx36 : ∀ h : 0 < t193.size, ((t193[0]'h).toNat : Int) = bt t193 0 := bt_at t193 0
                            clear p36
                            have qi36 : (0 < (t193.size : Int)) = True := eq_true (of_decide_eq_true (by first | (with_reducible assumption) | assumption))
                            replace q36 := eq_true q36
                            have p38 : 0 ≤ (0 : Int) := (by omega)
                            have q38 : 0 < t193.size := (by have : (0 : Int) < (t193.size : Int) := of_decide_eq_true (by first | (with_reducible assumption) | assumption); omega)
                            have hx38 : ∀ h : 0 < t193.size, ((t193[0]'h).toNat : Int) = bt t193 0 := bt_at t193 0
                            clear p38
                            have qi38 : (0 < (t193.size : Int)) = True := eq_true (of_decide_eq_true (by first | (with_reducible assumption) | assumption))
                            replace q38 := eq_true q38
                            have p43 : 0 ≤ ((ji40) : Int) := of_decide_eq_true (by first | (with_reducible assumption) | assumption)
                            have q43 : (ji40) < (t193.size : Int) := of_decide_eq_true (by first | (with_reducible assumption) | assumption)
                            have hx43 := bt_at t193 (ji40)
                            replace p43 := eq_true p43
                            replace q43 := eq_true q43
                            go_wp2
                            go_ret
                            exact ⟨by first | rfl | (simp [errW_none, errW_some] <;> rfl) | (simp only [← hji40]; first | rfl | (simp [errW_none, errW_some] <;> rfl)) | (simp [*, errW_none, errW_some] <;> rfl), by repeat (first | (with_reducible first | exact HB.out | apply below_alloc | apply pw_below_drewN | apply below_drew1) | exact HB.out)⟩
                          · rw [if_neg c44] at H
                            have c44b0 : ((bt t193 (ji40)) == 32) = false := beq_eq_false_iff_ne.mpr c44
                            have c44b1 : ((bt t193 (ji40)) != 32) = true := bne_iff_ne.mpr c44
                            by_cases c46 : (bt t193 (ji40)) = 9
                            · rw [if_pos c46] at H
                              have c46b0 : ((bt t193 (ji40)) == 9) = true := beq_iff_eq.mpr c46
                              have c46b1 : ((bt t193 (ji40)) != 9) = false := bne_eq_false_iff_eq.mpr c46
                              clear c46
                              obtain rfl := Option.some.inj H
                              have p36 : 0 ≤ (0 : Int) := (by omega)
                              have q36 : 0 < t193.size := (by have : (0 : Int) < (t193.size : Int) := of_decide_eq_true (by first | (with_reducible assumption) | assumption); omega)
                              have hx36 : ∀ h : 0 < t193.size, ((t193[0]'h).toNat : Int) = bt t193 0 := bt_at t193 0
                              clear p36
                              have qi36 : (0 < (t193.size : Int)) = True := eq_true (of_decide_eq_true (by first | (with_reducible assumption) | assumption))
                              replace q36 := eq_true q36
                              have p38 : 0 ≤ (0 : Int) := (by omega)
                              have q38 : 0 < t193.size := (by have : (0 : Int) < (t193.size : Int) := of_decide_eq_true (by first | (with_reducible assumption) | assumption); omega)
                              have hx38 : ∀ h : 0 < t193.size, ((t193[0]'h).toNat : Int) = bt t193 0 := bt_at t193 0
                              clear p38
                              have qi38 : (0 < (t193.size : Int)) = True := eq_true (of_decide_eq_true (by first | (with_reducible assumption) | assumption))
                              replace q38 := eq_true q38
                              have p43 : 0 ≤ ((ji40) : Int) := of_decide_eq_true (by first | (with_reducible assumption) | assumption)
                              have q43 : (ji40) < (t193.size : Int) := of_decide_eq_true (by first | (with_reducible assumption) | assumption)
                              have hx43 := bt_at t193 (ji40)
                              replace p43 := eq_true p43
                              replace q43 := eq_true q43
                              have p45 : 0 ≤ ((ji40) : Int) := of_decide_eq_true (by first | (with_reducible assumption) | assumption)
                              have q45 : (ji40) < (t193.size : Int) := of_decide_eq_true (by first | (with_reducible assumption) | assumption)
                              have hx45 := bt_at t193 (ji40)
                              replace p45 := eq_true p45
                              replace q45 := eq_true q45
                              go_wp2
                              go_ret
                              exact ⟨by first | rfl | (simp [errW_none, errW_some] <;> rfl) | (simp only [← hji40]; first | rfl | (simp [errW_none, errW_some] <;> rfl)) | (simp [*, errW_none, errW_some] <;> rfl), by repeat (first | (with_reducible first | exact HB.out | apply below_alloc | apply pw_below_drewN | apply below_drew1) | exact HB.out)⟩
                            · rw [if_neg c46] at H
                              have c46b0 : ((bt t193 (ji40)) == 9) = false := beq_eq_false_iff_ne.mpr c46
                              have c46b1 : ((bt t193 (ji40)) != 9) = true := bne_iff_ne.mpr c46
                              replace H := Option.bind_eq_some_iff.mp H
                              obtain ⟨t200, A470, H⟩ := H
                              replace H : (some (!t200)) = some r := H
                              have A47 := Aside0.mk A470
                              clear A470
                              obtain rfl := Option.some.inj H
                              have p36 : 0 ≤ (0 : Int) := (by omega)
                              have q36 : 0 < t193.size := (by have : (0 : Int) < (t193.size : Int) := of_decide_eq_true (by first | (with_reducible assumption) | assumption); omega)
                              have hx36 : ∀ h : 0 < t193.size, ((t193[0]'h).toNat : Int) = bt t193 0 := bt_at t193 0
                              clear p36
                              have qi36 : (0 < (t193.size : Int)) = True := eq_true (of_decide_eq_true (by first | (with_reducible assumption) | assumption))
                              replace q36 := eq_true q36
                              have p38 : 0 ≤ (0 : Int) := (by omega)
                              have q38 : 0 < t193.size := (by have : (0 : Int) < (t193.size : Int) := of_decide_eq_true (by first | (with_reducible assumption) | assumption); omega)
                              have hx38 : ∀ h : 0 < t193.size, ((t193[0]'h).toNat : Int) = bt t193 0 := bt_at t193 0
                              clear p38
                              have qi38 : (0 < (t193.size : Int)) = True := eq_true (of_decide_eq_true (by first | (with_reducible assumption) | assumption))
                              replace q38 := eq_true q38
                              have p43 : 0 ≤ ((ji40) : Int) := of_decide_eq_true (by first | (with_reducible assumption) | assumption)
                              have q43 : (ji40) < (t193.size : Int) := of_decide_eq_true (by first | (with_reducible assumption) | assumption)
                              have hx43 := bt_at t193 (ji40)
                              replace p43 := eq_true p43
                              replace q43 := eq_true q43
                              have p45 : 0 ≤ ((ji40) : Int) := of_decide_eq_true (by first | (with_reducible assumption) | assumption)
                              have q45 : (ji40) < (t193.size : Int) := of_decide_eq_true (by first | (with_reducible assumption) | assumption)
                              have hx45 := bt_at t193 (ji40)
                              replace p45 := eq_true p45
                              replace q45 := eq_true q45
                              have tkA47 : True := trivial
                              go_wp2_with (first | (go_at_call 14; clear tkA47; (with_reducible refine (lines_Blank.calls a0 t200 _ A47.out).mono ?_); rintro e w48 ⟨rfl, hb⟩; have n0_ := Aside0.mk (below_step (by repeat (first | (with_reducible first | exact HB.out | apply below_alloc | apply pw_below_drewN | apply below_drew1) | exact HB.out)) hb); clear HB; have HB := n0_; clear n0_; (try clear hb); (try clear hb2); (try clear hk); (try clear hi)))
                              go_ret
                              exact ⟨by first | rfl | (simp [errW_none, errW_some] <;> rfl) | (simp only [← hji40]; first | rfl | (simp [errW_none, errW_some] <;> rfl)) | (simp [*, errW_none, errW_some] <;> rfl), by repeat (first | (with_reducible first | exact HB.out | apply below_alloc | apply pw_below_drewN | apply below_drew1) | exact HB.out)⟩
                        · rw [if_neg c42] at H
                          exact absurd H (by simp)
                      · rw [if_neg c41] at H
                        exact absurd H (by simp)
                · rw [if_neg c35] at H
                  exact absurd H (by simp)

end Go.Proofs.YtpofifheicbilaaDoor.X
