-- Written by a program of this session (wip/mkprint.py over the kit's print) out of the translation; Lean checks it.
import Derived.Test.YtpofifheicbilaaDoorX0
import Derived.Test.YtpofifheicbilaaDoorX1
import Derived.Test.YtpofifheicbilaaDoorX2
namespace Go.Proofs.YtpofifheicbilaaDoor.X
open Go.RowKit Go.Proofs.YtpofifheicbilaaDoor.G Go.Proofs.YtpofifheicbilaaDoorW.PrintWords Go.Proofs.YtpofifheicbilaaDoorW.PrintLast Go.Proofs.YtpofifheicbilaaDoorW.PrintMore
attribute [local go_sem] max2_int min2_int max_two min_two max_three min_three max_four min_four   -- for this text's walks alone
set_option linter.unusedVariables false
set_option linter.unusedSimpArgs false

/-! ### emendationlaw02_LinesEnds: function 3 -/
mutual
def emendationlaw02_LinesEnds.j0 : Nat → List ByteArray → List Int → Bool → Option (Bool)
  | 0, _, _, _ => none
  | k + 1, x0, x1, x21 => if x21 = true then ((emendationlaw02_awake.f k).bind fun t127 => (some t127)) else (emendationlaw02_LinesEnds.l0 k x0 x1 (⟨#[]⟩ : ByteArray) (⟨#[]⟩ : ByteArray) (x0.length : Int) 0)
def emendationlaw02_LinesEnds.l0 : Nat → List ByteArray → List Int → ByteArray → ByteArray → Int → Int → Option (Bool)
  | 0, _, _, _, _, _, _ => none
  | k + 1, x0, x1, x5, x6, x24, x25 => if x25 < x24 then (if 0 ≤ x25 then (if x25 < (x0.length : Int) then (emendationlaw02_LinesEnds.l1 k x0 x1 x5 x6 x25 (⟨#[]⟩ : ByteArray) x24 x25 ((rdOf ByteArray.empty x0 x25).size : Int) 0) else (none)) else (none)) else ((lines_Split.f k x5).bind fun bt128 => ((lines_Split.f k x6).bind fun bt132 => ((emendationref02_Same.f k bt128.1 bt132.1).bind fun t136 => (if t136 = true then (if (bt128.2 == bt132.2) = true then (some ((bt128.1.length : Int) == (x0.length : Int))) else (some false)) else (some false)))))
def emendationlaw02_LinesEnds.l1 : Nat → List ByteArray → List Int → ByteArray → ByteArray → Int → ByteArray → Int → Int → Int → Int → Option (Bool)
  | 0, _, _, _, _, _, _, _, _, _, _ => none
  | k + 1, x0, x1, x5, x6, x7, x8, x24, x25, x32, x33 => if x33 < x32 then (if 0 ≤ x7 then (if x7 < (x0.length : Int) then (if 0 ≤ x33 then (if x33 < ((rdOf ByteArray.empty x0 x7).size : Int) then (if (bt (rdOf ByteArray.empty x0 x7) x33) = 10 then (emendationlaw02_LinesEnds.l1 k x0 x1 x5 x6 x7 x8 x24 x25 x32 (wrap64 (x33 + 1))) else (if (bt (rdOf ByteArray.empty x0 x7) x33) = 13 then (emendationlaw02_LinesEnds.l1 k x0 x1 x5 x6 x7 x8 x24 x25 x32 (wrap64 (x33 + 1))) else (if x33 ≤ (wrap64 (x33 + 1)) then (if (wrap64 (x33 + 1)) ≤ ((rdOf ByteArray.empty x0 x7).size : Int) then (if x8.size + ((rdOf ByteArray.empty x0 x7).extract (x33 : Int).toNat ((wrap64 (x33 + 1)) : Int).toNat).size ≤ 9223372036854775807 then (emendationlaw02_LinesEnds.l1 k x0 x1 x5 x6 x7 (x8 ++ ((rdOf ByteArray.empty x0 x7).extract (x33 : Int).toNat ((wrap64 (x33 + 1)) : Int).toNat)) x24 x25 x32 (wrap64 (x33 + 1))) else (none)) else (none)) else (none)))) else (none)) else (none)) else (none)) else (none)) else (if x5.size + x8.size ≤ 9223372036854775807 then (if (x5 ++ x8).size + 1 ≤ 9223372036854775807 then (if x7 < (x1.length : Int) then (if 0 ≤ x7 then (emendationlaw02_LinesEnds.j3 k x0 x1 ((x5 ++ x8) ++ (⟨#[10]⟩ : ByteArray)) x6 x7 x8 (⟨#[10]⟩ : ByteArray) x24 x25 ((Int.tmod (rd x1 x7) 3) == 1)) else (none)) else (emendationlaw02_LinesEnds.j3 k x0 x1 ((x5 ++ x8) ++ (⟨#[10]⟩ : ByteArray)) x6 x7 x8 (⟨#[10]⟩ : ByteArray) x24 x25 false)) else (none)) else (none))
def emendationlaw02_LinesEnds.j3 : Nat → List ByteArray → List Int → ByteArray → ByteArray → Int → ByteArray → ByteArray → Int → Int → Bool → Option (Bool)
  | 0, _, _, _, _, _, _, _, _, _, _ => none
  | k + 1, x0, x1, x5, x6, x7, x8, x10, x24, x25, x78 => if x78 = true then (if x7 < (x1.length : Int) then (if 0 ≤ x7 then (if (Int.tmod (rd x1 x7) 3) = 2 then (if x7 = (wrap64 ((x0.length : Int) - 1)) then (if x6.size + x8.size ≤ 9223372036854775807 then (if (x6 ++ x8).size + 1 ≤ 9223372036854775807 then (emendationlaw02_LinesEnds.l0 k x0 x1 x5 ((x6 ++ x8) ++ (⟨#[13]⟩ : ByteArray)) x24 (wrap64 (x25 + 1))) else (none)) else (none)) else (if x6.size + x8.size ≤ 9223372036854775807 then (if (x6 ++ x8).size + 2 ≤ 9223372036854775807 then (emendationlaw02_LinesEnds.l0 k x0 x1 x5 ((x6 ++ x8) ++ (⟨#[13, 10]⟩ : ByteArray)) x24 (wrap64 (x25 + 1))) else (none)) else (none))) else (if x6.size + x8.size ≤ 9223372036854775807 then (if (x6 ++ x8).size + 2 ≤ 9223372036854775807 then (emendationlaw02_LinesEnds.l0 k x0 x1 x5 ((x6 ++ x8) ++ (⟨#[13, 10]⟩ : ByteArray)) x24 (wrap64 (x25 + 1))) else (none)) else (none))) else (none)) else (if x6.size + x8.size ≤ 9223372036854775807 then (if (x6 ++ x8).size + 2 ≤ 9223372036854775807 then (emendationlaw02_LinesEnds.l0 k x0 x1 x5 ((x6 ++ x8) ++ (⟨#[13, 10]⟩ : ByteArray)) x24 (wrap64 (x25 + 1))) else (none)) else (none))) else (if x7 < (x1.length : Int) then (if 0 ≤ x7 then (if (Int.tmod (rd x1 x7) 3) = 2 then (if x7 = (wrap64 ((x0.length : Int) - 1)) then (if x6.size + x8.size ≤ 9223372036854775807 then (if (x6 ++ x8).size + 1 ≤ 9223372036854775807 then (emendationlaw02_LinesEnds.l0 k x0 x1 x5 ((x6 ++ x8) ++ (⟨#[13]⟩ : ByteArray)) x24 (wrap64 (x25 + 1))) else (none)) else (none)) else (if x6.size + x8.size ≤ 9223372036854775807 then (if (x6 ++ x8).size + x10.size ≤ 9223372036854775807 then (emendationlaw02_LinesEnds.l0 k x0 x1 x5 ((x6 ++ x8) ++ x10) x24 (wrap64 (x25 + 1))) else (none)) else (none))) else (if x6.size + x8.size ≤ 9223372036854775807 then (if (x6 ++ x8).size + x10.size ≤ 9223372036854775807 then (emendationlaw02_LinesEnds.l0 k x0 x1 x5 ((x6 ++ x8) ++ x10) x24 (wrap64 (x25 + 1))) else (none)) else (none))) else (none)) else (if x6.size + x8.size ≤ 9223372036854775807 then (if (x6 ++ x8).size + x10.size ≤ 9223372036854775807 then (emendationlaw02_LinesEnds.l0 k x0 x1 x5 ((x6 ++ x8) ++ x10) x24 (wrap64 (x25 + 1))) else (none)) else (none)))
end
def emendationlaw02_LinesEnds.f (k : Nat) (l0 : List ByteArray) (l1 : List Int) : Option (Bool) := (emendationlaw02_awake.f k).bind fun t125 => (if t125 = true then ((emendationlaw02_few.f k l0).bind fun t126 => (emendationlaw02_LinesEnds.j0 k l0 l1 (!t126))) else (emendationlaw02_LinesEnds.j0 k l0 l1 true))
theorem emendationlaw02_LinesEnds.mono_l : ∀ k, (∀ y0 y1 y2, LeO (emendationlaw02_LinesEnds.j0 k y0 y1 y2) (emendationlaw02_LinesEnds.j0 (k + 1) y0 y1 y2)) ∧ (∀ y0 y1 y2 y3 y4 y5, LeO (emendationlaw02_LinesEnds.l0 k y0 y1 y2 y3 y4 y5) (emendationlaw02_LinesEnds.l0 (k + 1) y0 y1 y2 y3 y4 y5)) ∧ (∀ y0 y1 y2 y3 y4 y5 y6 y7 y8 y9, LeO (emendationlaw02_LinesEnds.l1 k y0 y1 y2 y3 y4 y5 y6 y7 y8 y9) (emendationlaw02_LinesEnds.l1 (k + 1) y0 y1 y2 y3 y4 y5 y6 y7 y8 y9)) ∧ (∀ y0 y1 y2 y3 y4 y5 y6 y7 y8 y9, LeO (emendationlaw02_LinesEnds.j3 k y0 y1 y2 y3 y4 y5 y6 y7 y8 y9) (emendationlaw02_LinesEnds.j3 (k + 1) y0 y1 y2 y3 y4 y5 y6 y7 y8 y9))
  | 0 => ⟨fun _ _ _ r h => by simp [emendationlaw02_LinesEnds.j0] at h, fun _ _ _ _ _ _ r h => by simp [emendationlaw02_LinesEnds.l0] at h, fun _ _ _ _ _ _ _ _ _ _ r h => by simp [emendationlaw02_LinesEnds.l1] at h, fun _ _ _ _ _ _ _ _ _ _ r h => by simp [emendationlaw02_LinesEnds.j3] at h⟩
  | k + 1 => by
    obtain ⟨ih0, ih1, ih2, ih3⟩ := emendationlaw02_LinesEnds.mono_l k
    refine ⟨?_, ?_, ?_, ?_⟩
    · intro y0 y1 y2
      unfold emendationlaw02_LinesEnds.j0
      repeat' first
      | (with_reducible exact ih0 _ _ _)
      | (with_reducible exact ih1 _ _ _ _ _ _)
      | (with_reducible exact ih2 _ _ _ _ _ _ _ _ _ _)
      | (with_reducible exact ih3 _ _ _ _ _ _ _ _ _ _)
      | (with_reducible exact emendationlaw02_awake.mono _)
      | (with_reducible exact emendationlaw02_few.mono _ _)
      | (with_reducible exact emendationref02_Same.mono _ _ _)
      | (with_reducible exact lines_Split.mono _ _)
      | (with_reducible exact LeO.refl _)
      | (with_reducible exact LeO.none _)
      | (with_reducible refine LeO.ite ?_ ?_)
      | (with_reducible refine LeO.bind ?_ (fun _ => ?_))
      | exact ih0 _ _ _
      | exact ih1 _ _ _ _ _ _
      | exact ih2 _ _ _ _ _ _ _ _ _ _
      | exact ih3 _ _ _ _ _ _ _ _ _ _
      | exact emendationlaw02_awake.mono _
      | exact emendationlaw02_few.mono _ _
      | exact emendationref02_Same.mono _ _ _
      | exact lines_Split.mono _ _
      | exact LeO.none _
      | refine LeO.ite ?_ ?_
      | refine LeO.bind ?_ (fun _ => ?_)
    · intro y0 y1 y2 y3 y4 y5
      unfold emendationlaw02_LinesEnds.l0
      repeat' first
      | (with_reducible exact ih0 _ _ _)
      | (with_reducible exact ih1 _ _ _ _ _ _)
      | (with_reducible exact ih2 _ _ _ _ _ _ _ _ _ _)
      | (with_reducible exact ih3 _ _ _ _ _ _ _ _ _ _)
      | (with_reducible exact emendationlaw02_awake.mono _)
      | (with_reducible exact emendationlaw02_few.mono _ _)
      | (with_reducible exact emendationref02_Same.mono _ _ _)
      | (with_reducible exact lines_Split.mono _ _)
      | (with_reducible exact LeO.refl _)
      | (with_reducible exact LeO.none _)
      | (with_reducible refine LeO.ite ?_ ?_)
      | (with_reducible refine LeO.bind ?_ (fun _ => ?_))
      | exact ih0 _ _ _
      | exact ih1 _ _ _ _ _ _
      | exact ih2 _ _ _ _ _ _ _ _ _ _
      | exact ih3 _ _ _ _ _ _ _ _ _ _
      | exact emendationlaw02_awake.mono _
      | exact emendationlaw02_few.mono _ _
      | exact emendationref02_Same.mono _ _ _
      | exact lines_Split.mono _ _
      | exact LeO.none _
      | refine LeO.ite ?_ ?_
      | refine LeO.bind ?_ (fun _ => ?_)
    · intro y0 y1 y2 y3 y4 y5 y6 y7 y8 y9
      unfold emendationlaw02_LinesEnds.l1
      repeat' first
      | (with_reducible exact ih0 _ _ _)
      | (with_reducible exact ih1 _ _ _ _ _ _)
      | (with_reducible exact ih2 _ _ _ _ _ _ _ _ _ _)
      | (with_reducible exact ih3 _ _ _ _ _ _ _ _ _ _)
      | (with_reducible exact emendationlaw02_awake.mono _)
      | (with_reducible exact emendationlaw02_few.mono _ _)
      | (with_reducible exact emendationref02_Same.mono _ _ _)
      | (with_reducible exact lines_Split.mono _ _)
      | (with_reducible exact LeO.refl _)
      | (with_reducible exact LeO.none _)
      | (with_reducible refine LeO.ite ?_ ?_)
      | (with_reducible refine LeO.bind ?_ (fun _ => ?_))
      | exact ih0 _ _ _
      | exact ih1 _ _ _ _ _ _
      | exact ih2 _ _ _ _ _ _ _ _ _ _
      | exact ih3 _ _ _ _ _ _ _ _ _ _
      | exact emendationlaw02_awake.mono _
      | exact emendationlaw02_few.mono _ _
      | exact emendationref02_Same.mono _ _ _
      | exact lines_Split.mono _ _
      | exact LeO.none _
      | refine LeO.ite ?_ ?_
      | refine LeO.bind ?_ (fun _ => ?_)
    · intro y0 y1 y2 y3 y4 y5 y6 y7 y8 y9
      unfold emendationlaw02_LinesEnds.j3
      repeat' first
      | (with_reducible exact ih0 _ _ _)
      | (with_reducible exact ih1 _ _ _ _ _ _)
      | (with_reducible exact ih2 _ _ _ _ _ _ _ _ _ _)
      | (with_reducible exact ih3 _ _ _ _ _ _ _ _ _ _)
      | (with_reducible exact emendationlaw02_awake.mono _)
      | (with_reducible exact emendationlaw02_few.mono _ _)
      | (with_reducible exact emendationref02_Same.mono _ _ _)
      | (with_reducible exact lines_Split.mono _ _)
      | (with_reducible exact LeO.refl _)
      | (with_reducible exact LeO.none _)
      | (with_reducible refine LeO.ite ?_ ?_)
      | (with_reducible refine LeO.bind ?_ (fun _ => ?_))
      | exact ih0 _ _ _
      | exact ih1 _ _ _ _ _ _
      | exact ih2 _ _ _ _ _ _ _ _ _ _
      | exact ih3 _ _ _ _ _ _ _ _ _ _
      | exact emendationlaw02_awake.mono _
      | exact emendationlaw02_few.mono _ _
      | exact emendationref02_Same.mono _ _ _
      | exact lines_Split.mono _ _
      | exact LeO.none _
      | refine LeO.ite ?_ ?_
      | refine LeO.bind ?_ (fun _ => ?_)
theorem emendationlaw02_LinesEnds.mono : ∀ a0 a1 k, LeO (emendationlaw02_LinesEnds.f k a0 a1) (emendationlaw02_LinesEnds.f (k + 1) a0 a1) := by
  intro a0 a1 k
  obtain ⟨ih0, ih1, ih2, ih3⟩ := emendationlaw02_LinesEnds.mono_l k
  unfold emendationlaw02_LinesEnds.f
  repeat' first
      | (with_reducible exact ih0 _ _ _)
      | (with_reducible exact ih1 _ _ _ _ _ _)
      | (with_reducible exact ih2 _ _ _ _ _ _ _ _ _ _)
      | (with_reducible exact ih3 _ _ _ _ _ _ _ _ _ _)
      | (with_reducible exact emendationlaw02_awake.mono _)
      | (with_reducible exact emendationlaw02_few.mono _ _)
      | (with_reducible exact emendationref02_Same.mono _ _ _)
      | (with_reducible exact lines_Split.mono _ _)
      | (with_reducible exact LeO.refl _)
      | (with_reducible exact LeO.none _)
      | (with_reducible refine LeO.ite ?_ ?_)
      | (with_reducible refine LeO.bind ?_ (fun _ => ?_))
      | exact ih0 _ _ _
      | exact ih1 _ _ _ _ _ _
      | exact ih2 _ _ _ _ _ _ _ _ _ _
      | exact ih3 _ _ _ _ _ _ _ _ _ _
      | exact emendationlaw02_awake.mono _
      | exact emendationlaw02_few.mono _ _
      | exact emendationref02_Same.mono _ _ _
      | exact lines_Split.mono _ _
      | exact LeO.none _
      | refine LeO.ite ?_ ?_
      | refine LeO.bind ?_ (fun _ => ?_)
set_option maxHeartbeats 8000000 in
set_option maxRecDepth 100000 in
theorem emendationlaw02_LinesEnds.calls (k : Nat) (A0 : Option Addr) (c0 : Nat) (l0 : List ByteArray) (A1 : Option Addr) (c1 : Nat) (l1 : List Int) (r : Bool) (w : World) (hr0 : Kd.C Kd.string w A0 l0.length l0) (hc0 : l0.length ≤ c0) (hr1 : Kd.C (Kd.int .u8) w A1 l1.length l1) (hc1 : l1.length ≤ c1) (h : emendationlaw02_LinesEnds.f k l0 l1 = some r) :
    Calls Tryd.prog 3 #[.slice A0 l0.length c0, .slice A1 l1.length c1] w fun e w' => e = .returned (.bool r) ∧ Below w.heap.size w w' := by
  have HR0 := Aside0.mk hr0
  have HC0 := Aside0.mk hc0
  clear hr0 hc0
  have HR1 := Aside0.mk hr1
  have HC1 := Aside0.mk hc1
  clear hr1 hc1
  have HB := Aside0.mk (Below.refl w.heap.size w)
  have H : ((emendationlaw02_awake.f k).bind fun t125 => (if t125 = true then ((emendationlaw02_few.f k l0).bind fun t126 => (emendationlaw02_LinesEnds.j0 k l0 l1 (!t126))) else (emendationlaw02_LinesEnds.j0 k l0 l1 true))) = some r := h
  clear h
  have HC3 := Aside0.mk H
  clear H
  go_enter Tryd.func3, Tryd.ntmps3
  go_upto_region 1 with (fail)
  go_cut [21] (fun v21 wc => ∃ (kq : Nat) (x21_2 : Bool), v21 = .bool x21_2 ∧ Aside0 (emendationlaw02_LinesEnds.j0 kq l0 l1 x21_2 = some r) ∧ Aside0 (kq ≤ k) ∧ Aside0 (Below w.heap.size w wc))
  case first =>
    have H := HC3.out
    clear HC3
    replace H := Option.bind_eq_some_iff.mp H
    obtain ⟨t125, A40, H⟩ := H
    replace H : (if t125 = true then ((emendationlaw02_few.f k l0).bind fun t126 => (emendationlaw02_LinesEnds.j0 k l0 l1 (!t126))) else (emendationlaw02_LinesEnds.j0 k l0 l1 true)) = some r := H
    have A4 := Aside0.mk A40
    clear A40
    by_cases c5 : t125 = true
    · subst c5
      have H1 : ((emendationlaw02_few.f k l0).bind fun t126 => (emendationlaw02_LinesEnds.j0 k l0 l1 (!t126))) = some r := by rw [if_pos rfl] at H; exact H
      clear H
      have H := H1
      clear H1
      replace H := Option.bind_eq_some_iff.mp H
      obtain ⟨t126, A60, H⟩ := H
      replace H : (emendationlaw02_LinesEnds.j0 k l0 l1 (!t126)) = some r := H
      have A6 := Aside0.mk A60
      clear A60
      have H' := Aside0.mk H
      clear H
      go_wp2_with (first | ((with_reducible refine gate_callee (f := 10) rfl ?_); refine goesL_ (some 15) rfl rfl Tryd.func10 (by kernel_rfl) rfl #[] rfl (by (try simp only [List.map_toArray, List.map_cons, List.map_nil]); first | done | rfl | (simp only [List.length_drop, List.length_take]; rfl)) ?_; (with_reducible refine (emendationlaw02_awake.calls k  true _ A4.out).mono ?_); rintro e w7 ⟨rfl, hb⟩; refine ⟨_, rfl, ?_⟩; have n0_ := Aside0.mk (below_step (by repeat (first | (with_reducible first | exact HB.out | apply below_alloc | apply pw_below_drewN | apply below_drew1) | exact HB.out)) hb); clear HB; have HB := n0_; clear n0_; (try clear hb); (try clear hb2); (try clear hk); (try clear hi); have tkA6 : True := trivial) | (go_at_call 11; clear tkA6; (with_reducible refine (emendationlaw02_few.calls k _ _ l0 t126 _ ?side1 ?side2 A6.out).mono ?_); (case side1 => repeat (first | exact (Kd.C_below HR0.out HB.out) | (with_reducible refine Kd.C_alloc ?_ _) | (with_reducible refine Kd.C_drewN ?_ _) | (with_reducible refine Kd.C_drew ?_))); (case side2 => exact HC0.out); rintro e w' ⟨rfl, ⟨nd, rfl⟩⟩))
      go_meet
      case rel => exact ⟨_, (!t126), (by first | rfl | (simp; done) | (simp [*]; done)), H', ⟨by first | omega | exact Nat.le_refl _⟩, ⟨by repeat (first | (with_reducible first | exact HB.out | apply below_alloc | apply pw_below_drewN | apply below_drew1) | exact HB.out)⟩⟩
    · replace c5 := Bool.eq_false_iff.mpr c5
      subst c5
      have H1 : (emendationlaw02_LinesEnds.j0 k l0 l1 true) = some r := by rw [if_neg (show ¬ (false = true) by decide)] at H; exact H
      clear H
      have H := H1
      clear H1
      have H' := Aside0.mk H
      clear H
      go_wp2_with (first | ((with_reducible refine gate_callee (f := 10) rfl ?_); refine goesL_ (some 15) rfl rfl Tryd.func10 (by kernel_rfl) rfl #[] rfl (by (try simp only [List.map_toArray, List.map_cons, List.map_nil]); first | done | rfl | (simp only [List.length_drop, List.length_take]; rfl)) ?_; (with_reducible refine (emendationlaw02_awake.calls k  false _ A4.out).mono ?_); rintro e w8 ⟨rfl, hb⟩; refine ⟨_, rfl, ?_⟩; have n0_ := Aside0.mk (below_step (by repeat (first | (with_reducible first | exact HB.out | apply below_alloc | apply pw_below_drewN | apply below_drew1) | exact HB.out)) hb); clear HB; have HB := n0_; clear n0_; (try clear hb); (try clear hb2); (try clear hk); (try clear hi)))
      go_meet
      case rel => exact ⟨_, (true), (by first | rfl | (simp; done) | (simp [*]; done)), H', ⟨by first | omega | exact Nat.le_refl _⟩, ⟨by repeat (first | (with_reducible first | exact HB.out | apply below_alloc | apply pw_below_drewN | apply below_drew1) | exact HB.out)⟩⟩
  case rest =>
    clear HC3
    try clear c1
    try clear p2
    try clear c3
    try clear c5
    obtain ⟨kq, x21_2, rfl, HA, HJ2, HB⟩ := hcut
    cases kq with
    | zero => exact absurd HA.out (by simp [emendationlaw02_LinesEnds.j0])
    | succ kj2 =>
      have H := HA.out
      clear HA
      simp only [emendationlaw02_LinesEnds.j0] at H
      by_cases c9 : x21_2 = true
      · subst c9
        have H1 : ((emendationlaw02_awake.f kj2).bind fun t127 => (some t127)) = some r := by rw [if_pos rfl] at H; exact H
        clear H
        have H := H1
        clear H1
        replace H := Option.bind_eq_some_iff.mp H
        obtain ⟨t127, A100, H⟩ := H
        replace H : (some t127) = some r := H
        have A10 := Aside0.mk A100
        clear A100
        obtain rfl := Option.some.inj H
        go_wp2_with (first | ((with_reducible refine gate_callee (f := 10) rfl ?_); refine goesL_ (some 22) rfl rfl Tryd.func10 (by kernel_rfl) rfl #[] rfl (by (try simp only [List.map_toArray, List.map_cons, List.map_nil]); first | done | rfl | (simp only [List.length_drop, List.length_take]; rfl)) ?_; (with_reducible refine (emendationlaw02_awake.calls kj2  t127 _ A10.out).mono ?_); rintro e w11 ⟨rfl, hb⟩; refine ⟨_, rfl, ?_⟩; have n0_ := Aside0.mk (below_step (by repeat (first | (with_reducible first | exact HB.out | apply below_alloc | apply pw_below_drewN | apply below_drew1) | exact HB.out)) hb); clear HB; have HB := n0_; clear n0_; (try clear hb); (try clear hb2); (try clear hk); (try clear hi)))
        go_ret
        exact ⟨by first | rfl | (simp [errW_none, errW_some] <;> rfl) | (simp [*, errW_none, errW_some] <;> rfl), by repeat (first | (with_reducible first | exact HB.out | apply below_alloc | apply pw_below_drewN | apply below_drew1) | exact HB.out)⟩
      · replace c9 := Bool.eq_false_iff.mpr c9
        subst c9
        have H1 : (emendationlaw02_LinesEnds.l0 kj2 l0 l1 (⟨#[]⟩ : ByteArray) (⟨#[]⟩ : ByteArray) (l0.length : Int) 0) = some r := by rw [if_neg (show ¬ (false = true) by decide)] at H; exact H
        clear H
        have H := H1
        clear H1
        have H' := Aside0.mk H
        clear H
        go_wp2
        go_loopg [5, 6, 25] kj2 (fun kq v5 v6 v25 w' => ∃ (x5_2 : ByteArray) (x6_2 : ByteArray) (x25_2 : Int), v5 = .string x5_2 ∧ v6 = .string x6_2 ∧ v25 = .int .i64 x25_2 ∧ Aside0 (emendationlaw02_LinesEnds.l0 kq l0 l1 x5_2 x6_2 (l0.length : Int) x25_2 = some r) ∧ Aside0 (kq ≤ kj2) ∧ Aside0 (Below w.heap.size w w'))
        case atStart => exact ⟨((⟨#[]⟩ : ByteArray)), ((⟨#[]⟩ : ByteArray)), (0), (by first | rfl | (simp; done) | (simp [*]; done)), (by first | rfl | (simp; done) | (simp [*]; done)), (by first | rfl | (simp; done) | (simp [*]; done)), H', ⟨Nat.le_refl _⟩, ⟨by repeat (first | (with_reducible first | exact HB.out | apply below_alloc | apply pw_below_drewN | apply below_drew1) | exact HB.out)⟩⟩
        case round =>
          clear H'
          try clear c1
          try clear p2
          try clear c3
          try clear c5
          try clear c9
          try clear c10
          try clear p2
          obtain ⟨x5_2, x6_2, x25_2, rfl, rfl, rfl, HA, HK2, HB⟩ := hrel
          cases gk with
          | zero => exact absurd HA.out (by simp [emendationlaw02_LinesEnds.l0])
          | succ k2 =>
            have H := HA.out
            clear HA
            simp only [emendationlaw02_LinesEnds.l0] at H
            by_cases c12 : x25_2 < (l0.length : Int)
            · rw [if_pos c12] at H
              have c12b0 : decide (x25_2 < (l0.length : Int)) = true := decide_eq_true c12
              clear c12
              by_cases c13 : 0 ≤ x25_2
              · rw [if_pos c13] at H
                have c13b0 : decide (0 ≤ x25_2) = true := decide_eq_true c13
                clear c13
                by_cases c14 : x25_2 < (l0.length : Int)
                · rw [if_pos c14] at H
                  have c14b0 : decide (x25_2 < (l0.length : Int)) = true := decide_eq_true c14
                  clear c14
                  have H' := Aside0.mk H
                  clear H
                  have p137 : 0 ≤ (x25_2 : Int) := of_decide_eq_true (by first | (with_reducible assumption) | assumption)
                  have q137 : x25_2 < (l0.length : Int) := of_decide_eq_true (by first | (with_reducible assumption) | assumption)
                  obtain ⟨ad137, e137, hx137_0⟩ := Kd.at_string HR0.out x25_2 p137 q137
                  cases e137
                  replace hx137_0 := (HB.out.cell (World.block_lt_of_cell? w _ hx137_0)).trans hx137_0
                  replace p137 := eq_true p137
                  replace q137 := eq_true q137
                  go_wp2
                  go_loopg [8, 33] k2 (fun kq v8 v33 w' => ∃ (x8_3 : ByteArray) (x33_3 : Int), v8 = .string x8_3 ∧ v33 = .int .i64 x33_3 ∧ Aside0 (emendationlaw02_LinesEnds.l1 kq l0 l1 x5_2 x6_2 x25_2 x8_3 (l0.length : Int) x25_2 ((rdOf ByteArray.empty l0 x25_2).size : Int) x33_3 = some r) ∧ Aside0 (kq ≤ k2) ∧ Aside0 (Below w.heap.size w w'))
                  case atStart => exact ⟨((⟨#[]⟩ : ByteArray)), (0), (by first | rfl | (simp; done) | (simp [*]; done)), (by first | rfl | (simp; done) | (simp [*]; done)), H', ⟨Nat.le_refl _⟩, ⟨by repeat (first | (with_reducible first | exact HB.out | apply below_alloc | apply pw_below_drewN | apply below_drew1) | exact HB.out)⟩⟩
                  case round =>
                    clear H'
                    try clear c1
                    try clear p1
                    try clear q1
                    try clear hx1
                    try clear p2
                    try clear c3
                    try clear c5
                    try clear c9
                    try clear c10
                    try clear c12
                    try clear c12b0
                    try clear c13
                    try clear c13b0
                    try clear p13
                    try clear q13
                    try clear hx13
                    try clear c14
                    try clear c14b0
                    try clear hx137_0
                    try clear p137
                    try clear p2
                    try clear q137
                    obtain ⟨x8_3, x33_3, rfl, rfl, HA, HK3, HB⟩ := hrel
                    cases gk with
                    | zero => exact absurd HA.out (by simp [emendationlaw02_LinesEnds.l1])
                    | succ k3 =>
                      have H := HA.out
                      clear HA
                      simp only [emendationlaw02_LinesEnds.l1] at H
                      by_cases c15 : x33_3 < ((rdOf ByteArray.empty l0 x25_2).size : Int)
                      · rw [if_pos c15] at H
                        have c15b0 : decide (x33_3 < ((rdOf ByteArray.empty l0 x25_2).size : Int)) = true := decide_eq_true c15
                        clear c15
                        by_cases c16 : 0 ≤ x25_2
                        · rw [if_pos c16] at H
                          have c16b0 : decide (0 ≤ x25_2) = true := decide_eq_true c16
                          clear c16
                          by_cases c17 : x25_2 < (l0.length : Int)
                          · rw [if_pos c17] at H
                            have c17b0 : decide (x25_2 < (l0.length : Int)) = true := decide_eq_true c17
                            clear c17
                            by_cases c18 : 0 ≤ x33_3
                            · rw [if_pos c18] at H
                              have c18b0 : decide (0 ≤ x33_3) = true := decide_eq_true c18
                              clear c18
                              by_cases c19 : x33_3 < ((rdOf ByteArray.empty l0 x25_2).size : Int)
                              · rw [if_pos c19] at H
                                have c19b0 : decide (x33_3 < ((rdOf ByteArray.empty l0 x25_2).size : Int)) = true := decide_eq_true c19
                                clear c19
                                by_cases c21 : (bt (rdOf ByteArray.empty l0 x25_2) x33_3) = 10
                                · rw [if_pos c21] at H
                                  have c21b0 : ((bt (rdOf ByteArray.empty l0 x25_2) x33_3) == 10) = true := beq_iff_eq.mpr c21
                                  have c21b1 : ((bt (rdOf ByteArray.empty l0 x25_2) x33_3) != 10) = false := bne_eq_false_iff_eq.mpr c21
                                  clear c21
                                  have H' := Aside0.mk H
                                  clear H
                                  have p138 : 0 ≤ (x25_2 : Int) := of_decide_eq_true (by first | (with_reducible assumption) | assumption)
                                  have q138 : x25_2 < (l0.length : Int) := of_decide_eq_true (by first | (with_reducible assumption) | assumption)
                                  obtain ⟨ad138, e138, hx138_0⟩ := Kd.at_string HR0.out x25_2 p138 q138
                                  obtain rfl : ad137 = ad138 := (by injection e138)
                                  replace hx138_0 := (HB.out.cell (World.block_lt_of_cell? w _ hx138_0)).trans hx138_0
                                  replace p138 := eq_true p138
                                  replace q138 := eq_true q138
                                  have p20 : 0 ≤ (x33_3 : Int) := of_decide_eq_true (by first | (with_reducible assumption) | assumption)
                                  have q20 : x33_3 < ((rdOf ByteArray.empty l0 x25_2).size : Int) := of_decide_eq_true (by first | (with_reducible assumption) | assumption)
                                  have hx20 := bt_at (rdOf ByteArray.empty l0 x25_2) x33_3
                                  replace p20 := eq_true p20
                                  replace q20 := eq_true q20
                                  go_wp2
                                  go_roundg k3
                                  case measure => have := HJ2.out; have := HK2.out; have := HK3.out; omega
                                  case rel => exact ⟨(x8_3), (wrap64 (x33_3 + 1)), (by first | rfl | (simp; done) | (simp [*]; done)), (by first | rfl | (simp; done) | (simp [*]; done)), H', ⟨by have := HJ2.out; have := HK2.out; have := HK3.out; omega⟩, ⟨by repeat (first | (with_reducible first | exact HB.out | apply below_alloc | apply pw_below_drewN | apply below_drew1) | exact HB.out)⟩⟩
                                · rw [if_neg c21] at H
                                  have c21b0 : ((bt (rdOf ByteArray.empty l0 x25_2) x33_3) == 10) = false := beq_eq_false_iff_ne.mpr c21
                                  have c21b1 : ((bt (rdOf ByteArray.empty l0 x25_2) x33_3) != 10) = true := bne_iff_ne.mpr c21
                                  by_cases c23 : (bt (rdOf ByteArray.empty l0 x25_2) x33_3) = 13
                                  · rw [if_pos c23] at H
                                    have c23b0 : ((bt (rdOf ByteArray.empty l0 x25_2) x33_3) == 13) = true := beq_iff_eq.mpr c23
                                    have c23b1 : ((bt (rdOf ByteArray.empty l0 x25_2) x33_3) != 13) = false := bne_eq_false_iff_eq.mpr c23
                                    clear c23
                                    have H' := Aside0.mk H
                                    clear H
                                    have p138 : 0 ≤ (x25_2 : Int) := of_decide_eq_true (by first | (with_reducible assumption) | assumption)
                                    have q138 : x25_2 < (l0.length : Int) := of_decide_eq_true (by first | (with_reducible assumption) | assumption)
                                    obtain ⟨ad138, e138, hx138_0⟩ := Kd.at_string HR0.out x25_2 p138 q138
                                    obtain rfl : ad137 = ad138 := (by injection e138)
                                    replace hx138_0 := (HB.out.cell (World.block_lt_of_cell? w _ hx138_0)).trans hx138_0
                                    replace p138 := eq_true p138
                                    replace q138 := eq_true q138
                                    have p20 : 0 ≤ (x33_3 : Int) := of_decide_eq_true (by first | (with_reducible assumption) | assumption)
                                    have q20 : x33_3 < ((rdOf ByteArray.empty l0 x25_2).size : Int) := of_decide_eq_true (by first | (with_reducible assumption) | assumption)
                                    have hx20 := bt_at (rdOf ByteArray.empty l0 x25_2) x33_3
                                    replace p20 := eq_true p20
                                    replace q20 := eq_true q20
                                    have p139 : 0 ≤ (x25_2 : Int) := of_decide_eq_true (by first | (with_reducible assumption) | assumption)
                                    have q139 : x25_2 < (l0.length : Int) := of_decide_eq_true (by first | (with_reducible assumption) | assumption)
                                    obtain ⟨ad139, e139, hx139_0⟩ := Kd.at_string HR0.out x25_2 p139 q139
                                    obtain rfl : ad137 = ad139 := (by injection e139)
                                    replace hx139_0 := (HB.out.cell (World.block_lt_of_cell? w _ hx139_0)).trans hx139_0
                                    replace p139 := eq_true p139
                                    replace q139 := eq_true q139
                                    have p22 : 0 ≤ (x33_3 : Int) := of_decide_eq_true (by first | (with_reducible assumption) | assumption)
                                    have q22 : x33_3 < ((rdOf ByteArray.empty l0 x25_2).size : Int) := of_decide_eq_true (by first | (with_reducible assumption) | assumption)
                                    have hx22 := bt_at (rdOf ByteArray.empty l0 x25_2) x33_3
                                    replace p22 := eq_true p22
                                    replace q22 := eq_true q22
                                    go_wp2
                                    go_roundg k3
                                    case measure => have := HJ2.out; have := HK2.out; have := HK3.out; omega
                                    case rel => exact ⟨(x8_3), (wrap64 (x33_3 + 1)), (by first | rfl | (simp; done) | (simp [*]; done)), (by first | rfl | (simp; done) | (simp [*]; done)), H', ⟨by have := HJ2.out; have := HK2.out; have := HK3.out; omega⟩, ⟨by repeat (first | (with_reducible first | exact HB.out | apply below_alloc | apply pw_below_drewN | apply below_drew1) | exact HB.out)⟩⟩
                                  · rw [if_neg c23] at H
                                    have c23b0 : ((bt (rdOf ByteArray.empty l0 x25_2) x33_3) == 13) = false := beq_eq_false_iff_ne.mpr c23
                                    have c23b1 : ((bt (rdOf ByteArray.empty l0 x25_2) x33_3) != 13) = true := bne_iff_ne.mpr c23
                                    have c24b0 := eq_true (of_decide_eq_true (by first | (with_reducible assumption) | assumption) : 0 ≤ x33_3)
                                    by_cases c25 : x33_3 ≤ (wrap64 (x33_3 + 1))
                                    · rw [if_pos c25] at H
                                      have c25b0 := eq_true c25
                                      have c25b1 : decide (x33_3 ≤ (wrap64 (x33_3 + 1))) = true := decide_eq_true c25
                                      by_cases c26 : (wrap64 (x33_3 + 1)) ≤ ((rdOf ByteArray.empty l0 x25_2).size : Int)
                                      · rw [if_pos c26] at H
                                        have c26b0 := eq_true c26
                                        have c26b1 : decide ((wrap64 (x33_3 + 1)) ≤ ((rdOf ByteArray.empty l0 x25_2).size : Int)) = true := decide_eq_true c26
                                        by_cases c27 : x8_3.size + ((rdOf ByteArray.empty l0 x25_2).extract (x33_3 : Int).toNat ((wrap64 (x33_3 + 1)) : Int).toNat).size ≤ 9223372036854775807
                                        · rw [if_pos c27] at H
                                          have c27b0 := eq_true c27
                                          have c27b1 : decide (x8_3.size + ((rdOf ByteArray.empty l0 x25_2).extract (x33_3 : Int).toNat ((wrap64 (x33_3 + 1)) : Int).toNat).size ≤ 9223372036854775807) = true := decide_eq_true c27
                                          try have c27b2 : (9223372036854775807 < x8_3.size + ((rdOf ByteArray.empty l0 x25_2).extract (x33_3 : Int).toNat ((wrap64 (x33_3 + 1)) : Int).toNat).size) = False := eq_false (Nat.not_lt.2 c27)
                                          have H' := Aside0.mk H
                                          clear H
                                          have p138 : 0 ≤ (x25_2 : Int) := of_decide_eq_true (by first | (with_reducible assumption) | assumption)
                                          have q138 : x25_2 < (l0.length : Int) := of_decide_eq_true (by first | (with_reducible assumption) | assumption)
                                          obtain ⟨ad138, e138, hx138_0⟩ := Kd.at_string HR0.out x25_2 p138 q138
                                          obtain rfl : ad137 = ad138 := (by injection e138)
                                          replace hx138_0 := (HB.out.cell (World.block_lt_of_cell? w _ hx138_0)).trans hx138_0
                                          replace p138 := eq_true p138
                                          replace q138 := eq_true q138
                                          have p20 : 0 ≤ (x33_3 : Int) := of_decide_eq_true (by first | (with_reducible assumption) | assumption)
                                          have q20 : x33_3 < ((rdOf ByteArray.empty l0 x25_2).size : Int) := of_decide_eq_true (by first | (with_reducible assumption) | assumption)
                                          have hx20 := bt_at (rdOf ByteArray.empty l0 x25_2) x33_3
                                          replace p20 := eq_true p20
                                          replace q20 := eq_true q20
                                          have p139 : 0 ≤ (x25_2 : Int) := of_decide_eq_true (by first | (with_reducible assumption) | assumption)
                                          have q139 : x25_2 < (l0.length : Int) := of_decide_eq_true (by first | (with_reducible assumption) | assumption)
                                          obtain ⟨ad139, e139, hx139_0⟩ := Kd.at_string HR0.out x25_2 p139 q139
                                          obtain rfl : ad137 = ad139 := (by injection e139)
                                          replace hx139_0 := (HB.out.cell (World.block_lt_of_cell? w _ hx139_0)).trans hx139_0
                                          replace p139 := eq_true p139
                                          replace q139 := eq_true q139
                                          have p22 : 0 ≤ (x33_3 : Int) := of_decide_eq_true (by first | (with_reducible assumption) | assumption)
                                          have q22 : x33_3 < ((rdOf ByteArray.empty l0 x25_2).size : Int) := of_decide_eq_true (by first | (with_reducible assumption) | assumption)
                                          have hx22 := bt_at (rdOf ByteArray.empty l0 x25_2) x33_3
                                          replace p22 := eq_true p22
                                          replace q22 := eq_true q22
                                          have p140 : 0 ≤ (x25_2 : Int) := of_decide_eq_true (by first | (with_reducible assumption) | assumption)
                                          have q140 : x25_2 < (l0.length : Int) := of_decide_eq_true (by first | (with_reducible assumption) | assumption)
                                          obtain ⟨ad140, e140, hx140_0⟩ := Kd.at_string HR0.out x25_2 p140 q140
                                          obtain rfl : ad137 = ad140 := (by injection e140)
                                          replace hx140_0 := (HB.out.cell (World.block_lt_of_cell? w _ hx140_0)).trans hx140_0
                                          replace p140 := eq_true p140
                                          replace q140 := eq_true q140
                                          go_wp2
                                          go_roundg k3
                                          case measure => have := HJ2.out; have := HK2.out; have := HK3.out; omega
                                          case rel => exact ⟨(x8_3 ++ ((rdOf ByteArray.empty l0 x25_2).extract (x33_3 : Int).toNat ((wrap64 (x33_3 + 1)) : Int).toNat)), (wrap64 (x33_3 + 1)), (by first | rfl | (simp; done) | (simp [*]; done)), (by first | rfl | (simp; done) | (simp [*]; done)), H', ⟨by have := HJ2.out; have := HK2.out; have := HK3.out; omega⟩, ⟨by repeat (first | (with_reducible first | exact HB.out | apply below_alloc | apply pw_below_drewN | apply below_drew1) | exact HB.out)⟩⟩
                                        · rw [if_neg c27] at H
                                          exact absurd H (by simp)
                                      · rw [if_neg c26] at H
                                        exact absurd H (by simp)
                                    · rw [if_neg c25] at H
                                      exact absurd H (by simp)
                              · rw [if_neg c19] at H
                                exact absurd H (by simp)
                            · rw [if_neg c18] at H
                              exact absurd H (by simp)
                          · rw [if_neg c17] at H
                            exact absurd H (by simp)
                        · rw [if_neg c16] at H
                          exact absurd H (by simp)
                      · rw [if_neg c15] at H
                        have c15b0 : decide (x33_3 < ((rdOf ByteArray.empty l0 x25_2).size : Int)) = false := decide_eq_false c15
                        clear c15
                        by_cases c28 : x5_2.size + x8_3.size ≤ 9223372036854775807
                        · rw [if_pos c28] at H
                          have c28b0 := eq_true c28
                          have c28b1 : decide (x5_2.size + x8_3.size ≤ 9223372036854775807) = true := decide_eq_true c28
                          try have c28b2 : (9223372036854775807 < x5_2.size + x8_3.size) = False := eq_false (Nat.not_lt.2 c28)
                          by_cases c29 : (x5_2 ++ x8_3).size + 1 ≤ 9223372036854775807
                          · rw [if_pos c29] at H
                            have c29b0 := eq_true c29
                            have c29b1 : decide ((x5_2 ++ x8_3).size + 1 ≤ 9223372036854775807) = true := decide_eq_true c29
                            try have c29b2 : (9223372036854775807 < (x5_2 ++ x8_3).size + 1) = False := eq_false (Nat.not_lt.2 c29)
                            (try (have c29s := c29; simp only [ByteArray.size_append] at c29s; have c29s0 := eq_true c29s; have c29s1 := decide_eq_true c29s; have c29s2 := eq_false (Nat.not_lt.2 c29s); clear c29s))
                            have HC30 := Aside0.mk H
                            clear H
                            go_upto_region 16 with (fail)
                            go_cut [78] (fun v78 wc => ∃ (kq : Nat) (x78_29 : Bool), v78 = .bool x78_29 ∧ Aside0 (emendationlaw02_LinesEnds.j3 kq l0 l1 ((x5_2 ++ x8_3) ++ (⟨#[10]⟩ : ByteArray)) x6_2 x25_2 x8_3 (⟨#[10]⟩ : ByteArray) (l0.length : Int) x25_2 x78_29 = some r) ∧ Aside0 (kq ≤ k3) ∧ Aside0 (Below w.heap.size w wc))
                            case first =>
                              have H := HC30.out
                              clear HC30
                              by_cases c31 : x25_2 < (l1.length : Int)
                              · rw [if_pos c31] at H
                                have c31b0 : decide (x25_2 < (l1.length : Int)) = true := decide_eq_true c31
                                clear c31
                                (first | rw [c31b0] | (simp only [i64_w, i32_w]; rw [c31b0]) | skip)
                                by_cases c32 : 0 ≤ x25_2
                                · rw [if_pos c32] at H
                                  have c32b0 : decide (0 ≤ x25_2) = true := decide_eq_true c32
                                  clear c32
                                  have H' := Aside0.mk H
                                  clear H
                                  have p141 : 0 ≤ (x25_2 : Int) := of_decide_eq_true (by first | (with_reducible assumption) | assumption)
                                  have q141 : x25_2 < (l1.length : Int) := of_decide_eq_true (by first | (with_reducible assumption) | assumption)
                                  obtain ⟨ad141, e141, hx141_0⟩ := Kd.at_int HR1.out x25_2 p141 q141
                                  cases e141
                                  replace hx141_0 := (HB.out.cell (World.block_lt_of_cell? w _ hx141_0)).trans hx141_0
                                  replace p141 := eq_true p141
                                  replace q141 := eq_true q141
                                  go_wp2
                                  go_meet
                                  case rel => exact ⟨_, (((Int.tmod (rd l1 x25_2) 3) == 1)), (by first | rfl | (simp; done) | (simp [*]; done)), H', ⟨by have := HJ2.out; have := HK2.out; have := HK3.out; first | omega | exact Nat.le_refl _⟩, ⟨by repeat (first | (with_reducible first | exact HB.out | apply below_alloc | apply pw_below_drewN | apply below_drew1) | exact HB.out)⟩⟩
                                · rw [if_neg c32] at H
                                  exact absurd H (by simp)
                              · rw [if_neg c31] at H
                                have c31b0 : decide (x25_2 < (l1.length : Int)) = false := decide_eq_false c31
                                clear c31
                                (first | rw [c31b0] | (simp only [i64_w, i32_w]; rw [c31b0]) | skip)
                                have H' := Aside0.mk H
                                clear H
                                go_wp2
                                go_meet
                                case rel => exact ⟨_, (false), (by first | rfl | (simp; done) | (simp [*]; done)), H', ⟨by have := HJ2.out; have := HK2.out; have := HK3.out; first | omega | exact Nat.le_refl _⟩, ⟨by repeat (first | (with_reducible first | exact HB.out | apply below_alloc | apply pw_below_drewN | apply below_drew1) | exact HB.out)⟩⟩
                            case rest =>
                              clear HC30
                              try clear c1
                              try clear p1
                              try clear q1
                              try clear hx1
                              try clear c2
                              try clear p2
                              try clear q2
                              try clear hx2
                              try clear c3
                              try clear c5
                              try clear p6
                              try clear c9
                              try clear c10
                              try clear c12
                              try clear c12b0
                              try clear c13
                              try clear c13b0
                              try clear p13
                              try clear q13
                              try clear hx13
                              try clear c14
                              try clear c14b0
                              try clear p14
                              try clear q14
                              try clear hx14
                              try clear c15
                              try clear c15b0
                              try clear c16
                              try clear c16b0
                              try clear c17
                              try clear c17b0
                              try clear c18
                              try clear c18b0
                              try clear c19
                              try clear c19b0
                              try clear p20
                              try clear q20
                              try clear hx20
                              try clear c21
                              try clear c21b0
                              try clear c21b1
                              try clear p22
                              try clear q22
                              try clear hx22
                              try clear c23
                              try clear c23b0
                              try clear c23b1
                              try clear c24
                              try clear c24b0
                              try clear c25
                              try clear c25b0
                              try clear c25b1
                              try clear c26
                              try clear c26b0
                              try clear c26b1
                              try clear c27
                              try clear c27b0
                              try clear c27b1
                              try clear c27b2
                              try clear c28
                              try clear c28b0
                              try clear c28b1
                              try clear c28b2
                              try clear c29
                              try clear c29b0
                              try clear c29b1
                              try clear c29b2
                              try clear c31
                              try clear c31b0
                              try clear c32
                              try clear c32b0
                              try clear hx137_0
                              try clear hx138_0
                              try clear hx139_0
                              try clear hx140_0
                              try clear hx141_0
                              try clear p1
                              try clear p13
                              try clear p137
                              try clear p138
                              try clear p139
                              try clear p140
                              try clear p141
                              try clear p2
                              try clear p20
                              try clear p22
                              try clear q1
                              try clear q13
                              try clear q137
                              try clear q138
                              try clear q139
                              try clear q140
                              try clear q141
                              try clear q20
                              try clear q22
                              obtain ⟨kq, x78_29, rfl, HA, HJ29, HB⟩ := hcut
                              cases kq with
                              | zero => exact absurd HA.out (by simp [emendationlaw02_LinesEnds.j3])
                              | succ kj29 =>
                                have H := HA.out
                                clear HA
                                simp only [emendationlaw02_LinesEnds.j3] at H
                                by_cases c33 : x78_29 = true
                                · subst c33
                                  have H1 : (if x25_2 < (l1.length : Int) then (if 0 ≤ x25_2 then (if (Int.tmod (rd l1 x25_2) 3) = 2 then (if x25_2 = (wrap64 ((l0.length : Int) - 1)) then (if x6_2.size + x8_3.size ≤ 9223372036854775807 then (if (x6_2 ++ x8_3).size + 1 ≤ 9223372036854775807 then (emendationlaw02_LinesEnds.l0 kj29 l0 l1 ((x5_2 ++ x8_3) ++ (⟨#[10]⟩ : ByteArray)) ((x6_2 ++ x8_3) ++ (⟨#[13]⟩ : ByteArray)) (l0.length : Int) (wrap64 (x25_2 + 1))) else (none)) else (none)) else (if x6_2.size + x8_3.size ≤ 9223372036854775807 then (if (x6_2 ++ x8_3).size + 2 ≤ 9223372036854775807 then (emendationlaw02_LinesEnds.l0 kj29 l0 l1 ((x5_2 ++ x8_3) ++ (⟨#[10]⟩ : ByteArray)) ((x6_2 ++ x8_3) ++ (⟨#[13, 10]⟩ : ByteArray)) (l0.length : Int) (wrap64 (x25_2 + 1))) else (none)) else (none))) else (if x6_2.size + x8_3.size ≤ 9223372036854775807 then (if (x6_2 ++ x8_3).size + 2 ≤ 9223372036854775807 then (emendationlaw02_LinesEnds.l0 kj29 l0 l1 ((x5_2 ++ x8_3) ++ (⟨#[10]⟩ : ByteArray)) ((x6_2 ++ x8_3) ++ (⟨#[13, 10]⟩ : ByteArray)) (l0.length : Int) (wrap64 (x25_2 + 1))) else (none)) else (none))) else (none)) else (if x6_2.size + x8_3.size ≤ 9223372036854775807 then (if (x6_2 ++ x8_3).size + 2 ≤ 9223372036854775807 then (emendationlaw02_LinesEnds.l0 kj29 l0 l1 ((x5_2 ++ x8_3) ++ (⟨#[10]⟩ : ByteArray)) ((x6_2 ++ x8_3) ++ (⟨#[13, 10]⟩ : ByteArray)) (l0.length : Int) (wrap64 (x25_2 + 1))) else (none)) else (none))) = some r := by rw [if_pos rfl] at H; exact H
                                  clear H
                                  have H := H1
                                  clear H1
                                  by_cases c34 : x25_2 < (l1.length : Int)
                                  · rw [if_pos c34] at H
                                    have c34b0 : decide (x25_2 < (l1.length : Int)) = true := decide_eq_true c34
                                    clear c34
                                    by_cases c35 : 0 ≤ x25_2
                                    · rw [if_pos c35] at H
                                      have c35b0 : decide (0 ≤ x25_2) = true := decide_eq_true c35
                                      clear c35
                                      by_cases c36 : (Int.tmod (rd l1 x25_2) 3) = 2
                                      · rw [if_pos c36] at H
                                        have c36b0 : ((Int.tmod (rd l1 x25_2) 3) == 2) = true := beq_iff_eq.mpr c36
                                        have c36b1 : ((Int.tmod (rd l1 x25_2) 3) != 2) = false := bne_eq_false_iff_eq.mpr c36
                                        clear c36
                                        by_cases c37 : x25_2 = (wrap64 ((l0.length : Int) - 1))
                                        · rw [if_pos c37] at H
                                          have c37b0 : (x25_2 == (wrap64 ((l0.length : Int) - 1))) = true := beq_iff_eq.mpr c37
                                          have c37b1 : (x25_2 != (wrap64 ((l0.length : Int) - 1))) = false := bne_eq_false_iff_eq.mpr c37
                                          clear c37
                                          by_cases c38 : x6_2.size + x8_3.size ≤ 9223372036854775807
                                          · rw [if_pos c38] at H
                                            have c38b0 := eq_true c38
                                            have c38b1 : decide (x6_2.size + x8_3.size ≤ 9223372036854775807) = true := decide_eq_true c38
                                            try have c38b2 : (9223372036854775807 < x6_2.size + x8_3.size) = False := eq_false (Nat.not_lt.2 c38)
                                            by_cases c39 : (x6_2 ++ x8_3).size + 1 ≤ 9223372036854775807
                                            · rw [if_pos c39] at H
                                              have c39b0 := eq_true c39
                                              have c39b1 : decide ((x6_2 ++ x8_3).size + 1 ≤ 9223372036854775807) = true := decide_eq_true c39
                                              try have c39b2 : (9223372036854775807 < (x6_2 ++ x8_3).size + 1) = False := eq_false (Nat.not_lt.2 c39)
                                              (try (have c39s := c39; simp only [ByteArray.size_append] at c39s; have c39s0 := eq_true c39s; have c39s1 := decide_eq_true c39s; have c39s2 := eq_false (Nat.not_lt.2 c39s); clear c39s))
                                              have H' := Aside0.mk H
                                              clear H
                                              have p142 : 0 ≤ (x25_2 : Int) := of_decide_eq_true (by first | (with_reducible assumption) | assumption)
                                              have q142 : x25_2 < (l1.length : Int) := of_decide_eq_true (by first | (with_reducible assumption) | assumption)
                                              obtain ⟨ad142, e142, hx142_0⟩ := Kd.at_int HR1.out x25_2 p142 q142
                                              cases e142
                                              replace hx142_0 := (HB.out.cell (World.block_lt_of_cell? w _ hx142_0)).trans hx142_0
                                              replace p142 := eq_true p142
                                              replace q142 := eq_true q142
                                              go_wp2
                                              go_roundg kj29
                                              case measure => have := HJ2.out; have := HK2.out; have := HK3.out; have := HJ29.out; omega
                                              case rel => exact ⟨(((x5_2 ++ x8_3) ++ (⟨#[10]⟩ : ByteArray))), ((x6_2 ++ x8_3) ++ (⟨#[13]⟩ : ByteArray)), (wrap64 (x25_2 + 1)), (by first | rfl | (simp; done) | (simp [*]; done)), (by first | rfl | (simp; done) | (simp [*]; done)), (by first | rfl | (simp; done) | (simp [*]; done)), H', ⟨by have := HJ2.out; have := HK2.out; have := HK3.out; have := HJ29.out; omega⟩, ⟨by repeat (first | (with_reducible first | exact HB.out | apply below_alloc | apply pw_below_drewN | apply below_drew1) | exact HB.out)⟩⟩
                                            · rw [if_neg c39] at H
                                              exact absurd H (by simp)
                                          · rw [if_neg c38] at H
                                            exact absurd H (by simp)
                                        · rw [if_neg c37] at H
                                          have c37b0 : (x25_2 == (wrap64 ((l0.length : Int) - 1))) = false := beq_eq_false_iff_ne.mpr c37
                                          have c37b1 : (x25_2 != (wrap64 ((l0.length : Int) - 1))) = true := bne_iff_ne.mpr c37
                                          by_cases c40 : x6_2.size + x8_3.size ≤ 9223372036854775807
                                          · rw [if_pos c40] at H
                                            have c40b0 := eq_true c40
                                            have c40b1 : decide (x6_2.size + x8_3.size ≤ 9223372036854775807) = true := decide_eq_true c40
                                            try have c40b2 : (9223372036854775807 < x6_2.size + x8_3.size) = False := eq_false (Nat.not_lt.2 c40)
                                            by_cases c41 : (x6_2 ++ x8_3).size + 2 ≤ 9223372036854775807
                                            · rw [if_pos c41] at H
                                              have c41b0 := eq_true c41
                                              have c41b1 : decide ((x6_2 ++ x8_3).size + 2 ≤ 9223372036854775807) = true := decide_eq_true c41
                                              try have c41b2 : (9223372036854775807 < (x6_2 ++ x8_3).size + 2) = False := eq_false (Nat.not_lt.2 c41)
                                              (try (have c41s := c41; simp only [ByteArray.size_append] at c41s; have c41s0 := eq_true c41s; have c41s1 := decide_eq_true c41s; have c41s2 := eq_false (Nat.not_lt.2 c41s); clear c41s))
                                              have H' := Aside0.mk H
                                              clear H
                                              have p142 : 0 ≤ (x25_2 : Int) := of_decide_eq_true (by first | (with_reducible assumption) | assumption)
                                              have q142 : x25_2 < (l1.length : Int) := of_decide_eq_true (by first | (with_reducible assumption) | assumption)
                                              obtain ⟨ad142, e142, hx142_0⟩ := Kd.at_int HR1.out x25_2 p142 q142
                                              cases e142
                                              replace hx142_0 := (HB.out.cell (World.block_lt_of_cell? w _ hx142_0)).trans hx142_0
                                              replace p142 := eq_true p142
                                              replace q142 := eq_true q142
                                              go_wp2
                                              go_roundg kj29
                                              case measure => have := HJ2.out; have := HK2.out; have := HK3.out; have := HJ29.out; omega
                                              case rel => exact ⟨(((x5_2 ++ x8_3) ++ (⟨#[10]⟩ : ByteArray))), ((x6_2 ++ x8_3) ++ (⟨#[13, 10]⟩ : ByteArray)), (wrap64 (x25_2 + 1)), (by first | rfl | (simp; done) | (simp [*]; done)), (by first | rfl | (simp; done) | (simp [*]; done)), (by first | rfl | (simp; done) | (simp [*]; done)), H', ⟨by have := HJ2.out; have := HK2.out; have := HK3.out; have := HJ29.out; omega⟩, ⟨by repeat (first | (with_reducible first | exact HB.out | apply below_alloc | apply pw_below_drewN | apply below_drew1) | exact HB.out)⟩⟩
                                            · rw [if_neg c41] at H
                                              exact absurd H (by simp)
                                          · rw [if_neg c40] at H
                                            exact absurd H (by simp)
                                      · rw [if_neg c36] at H
                                        have c36b0 : ((Int.tmod (rd l1 x25_2) 3) == 2) = false := beq_eq_false_iff_ne.mpr c36
                                        have c36b1 : ((Int.tmod (rd l1 x25_2) 3) != 2) = true := bne_iff_ne.mpr c36
                                        by_cases c42 : x6_2.size + x8_3.size ≤ 9223372036854775807
                                        · rw [if_pos c42] at H
                                          have c42b0 := eq_true c42
                                          have c42b1 : decide (x6_2.size + x8_3.size ≤ 9223372036854775807) = true := decide_eq_true c42
                                          try have c42b2 : (9223372036854775807 < x6_2.size + x8_3.size) = False := eq_false (Nat.not_lt.2 c42)
                                          by_cases c43 : (x6_2 ++ x8_3).size + 2 ≤ 9223372036854775807
                                          · rw [if_pos c43] at H
                                            have c43b0 := eq_true c43
                                            have c43b1 : decide ((x6_2 ++ x8_3).size + 2 ≤ 9223372036854775807) = true := decide_eq_true c43
                                            try have c43b2 : (9223372036854775807 < (x6_2 ++ x8_3).size + 2) = False := eq_false (Nat.not_lt.2 c43)
                                            (try (have c43s := c43; simp only [ByteArray.size_append] at c43s; have c43s0 := eq_true c43s; have c43s1 := decide_eq_true c43s; have c43s2 := eq_false (Nat.not_lt.2 c43s); clear c43s))
                                            have H' := Aside0.mk H
                                            clear H
                                            have p142 : 0 ≤ (x25_2 : Int) := of_decide_eq_true (by first | (with_reducible assumption) | assumption)
                                            have q142 : x25_2 < (l1.length : Int) := of_decide_eq_true (by first | (with_reducible assumption) | assumption)
                                            obtain ⟨ad142, e142, hx142_0⟩ := Kd.at_int HR1.out x25_2 p142 q142
                                            cases e142
                                            replace hx142_0 := (HB.out.cell (World.block_lt_of_cell? w _ hx142_0)).trans hx142_0
                                            replace p142 := eq_true p142
                                            replace q142 := eq_true q142
                                            go_wp2
                                            go_roundg kj29
                                            case measure => have := HJ2.out; have := HK2.out; have := HK3.out; have := HJ29.out; omega
                                            case rel => exact ⟨(((x5_2 ++ x8_3) ++ (⟨#[10]⟩ : ByteArray))), ((x6_2 ++ x8_3) ++ (⟨#[13, 10]⟩ : ByteArray)), (wrap64 (x25_2 + 1)), (by first | rfl | (simp; done) | (simp [*]; done)), (by first | rfl | (simp; done) | (simp [*]; done)), (by first | rfl | (simp; done) | (simp [*]; done)), H', ⟨by have := HJ2.out; have := HK2.out; have := HK3.out; have := HJ29.out; omega⟩, ⟨by repeat (first | (with_reducible first | exact HB.out | apply below_alloc | apply pw_below_drewN | apply below_drew1) | exact HB.out)⟩⟩
                                          · rw [if_neg c43] at H
                                            exact absurd H (by simp)
                                        · rw [if_neg c42] at H
                                          exact absurd H (by simp)
                                    · rw [if_neg c35] at H
                                      exact absurd H (by simp)
                                  · rw [if_neg c34] at H
                                    have c34b0 : decide (x25_2 < (l1.length : Int)) = false := decide_eq_false c34
                                    clear c34
                                    by_cases c44 : x6_2.size + x8_3.size ≤ 9223372036854775807
                                    · rw [if_pos c44] at H
                                      have c44b0 := eq_true c44
                                      have c44b1 : decide (x6_2.size + x8_3.size ≤ 9223372036854775807) = true := decide_eq_true c44
                                      try have c44b2 : (9223372036854775807 < x6_2.size + x8_3.size) = False := eq_false (Nat.not_lt.2 c44)
                                      by_cases c45 : (x6_2 ++ x8_3).size + 2 ≤ 9223372036854775807
                                      · rw [if_pos c45] at H
                                        have c45b0 := eq_true c45
                                        have c45b1 : decide ((x6_2 ++ x8_3).size + 2 ≤ 9223372036854775807) = true := decide_eq_true c45
                                        try have c45b2 : (9223372036854775807 < (x6_2 ++ x8_3).size + 2) = False := eq_false (Nat.not_lt.2 c45)
                                        (try (have c45s := c45; simp only [ByteArray.size_append] at c45s; have c45s0 := eq_true c45s; have c45s1 := decide_eq_true c45s; have c45s2 := eq_false (Nat.not_lt.2 c45s); clear c45s))
                                        have H' := Aside0.mk H
                                        clear H
                                        go_wp2
                                        go_roundg kj29
                                        case measure => have := HJ2.out; have := HK2.out; have := HK3.out; have := HJ29.out; omega
                                        case rel => exact ⟨(((x5_2 ++ x8_3) ++ (⟨#[10]⟩ : ByteArray))), ((x6_2 ++ x8_3) ++ (⟨#[13, 10]⟩ : ByteArray)), (wrap64 (x25_2 + 1)), (by first | rfl | (simp; done) | (simp [*]; done)), (by first | rfl | (simp; done) | (simp [*]; done)), (by first | rfl | (simp; done) | (simp [*]; done)), H', ⟨by have := HJ2.out; have := HK2.out; have := HK3.out; have := HJ29.out; omega⟩, ⟨by repeat (first | (with_reducible first | exact HB.out | apply below_alloc | apply pw_below_drewN | apply below_drew1) | exact HB.out)⟩⟩
                                      · rw [if_neg c45] at H
                                        exact absurd H (by simp)
                                    · rw [if_neg c44] at H
                                      exact absurd H (by simp)
                                · replace c33 := Bool.eq_false_iff.mpr c33
                                  subst c33
                                  have H1 : (if x25_2 < (l1.length : Int) then (if 0 ≤ x25_2 then (if (Int.tmod (rd l1 x25_2) 3) = 2 then (if x25_2 = (wrap64 ((l0.length : Int) - 1)) then (if x6_2.size + x8_3.size ≤ 9223372036854775807 then (if (x6_2 ++ x8_3).size + 1 ≤ 9223372036854775807 then (emendationlaw02_LinesEnds.l0 kj29 l0 l1 ((x5_2 ++ x8_3) ++ (⟨#[10]⟩ : ByteArray)) ((x6_2 ++ x8_3) ++ (⟨#[13]⟩ : ByteArray)) (l0.length : Int) (wrap64 (x25_2 + 1))) else (none)) else (none)) else (if x6_2.size + x8_3.size ≤ 9223372036854775807 then (if (x6_2 ++ x8_3).size + (⟨#[10]⟩ : ByteArray).size ≤ 9223372036854775807 then (emendationlaw02_LinesEnds.l0 kj29 l0 l1 ((x5_2 ++ x8_3) ++ (⟨#[10]⟩ : ByteArray)) ((x6_2 ++ x8_3) ++ (⟨#[10]⟩ : ByteArray)) (l0.length : Int) (wrap64 (x25_2 + 1))) else (none)) else (none))) else (if x6_2.size + x8_3.size ≤ 9223372036854775807 then (if (x6_2 ++ x8_3).size + (⟨#[10]⟩ : ByteArray).size ≤ 9223372036854775807 then (emendationlaw02_LinesEnds.l0 kj29 l0 l1 ((x5_2 ++ x8_3) ++ (⟨#[10]⟩ : ByteArray)) ((x6_2 ++ x8_3) ++ (⟨#[10]⟩ : ByteArray)) (l0.length : Int) (wrap64 (x25_2 + 1))) else (none)) else (none))) else (none)) else (if x6_2.size + x8_3.size ≤ 9223372036854775807 then (if (x6_2 ++ x8_3).size + (⟨#[10]⟩ : ByteArray).size ≤ 9223372036854775807 then (emendationlaw02_LinesEnds.l0 kj29 l0 l1 ((x5_2 ++ x8_3) ++ (⟨#[10]⟩ : ByteArray)) ((x6_2 ++ x8_3) ++ (⟨#[10]⟩ : ByteArray)) (l0.length : Int) (wrap64 (x25_2 + 1))) else (none)) else (none))) = some r := by rw [if_neg (show ¬ (false = true) by decide)] at H; exact H
                                  clear H
                                  have H := H1
                                  clear H1
                                  by_cases c46 : x25_2 < (l1.length : Int)
                                  · rw [if_pos c46] at H
                                    have c46b0 : decide (x25_2 < (l1.length : Int)) = true := decide_eq_true c46
                                    clear c46
                                    by_cases c47 : 0 ≤ x25_2
                                    · rw [if_pos c47] at H
                                      have c47b0 : decide (0 ≤ x25_2) = true := decide_eq_true c47
                                      clear c47
                                      by_cases c48 : (Int.tmod (rd l1 x25_2) 3) = 2
                                      · rw [if_pos c48] at H
                                        have c48b0 : ((Int.tmod (rd l1 x25_2) 3) == 2) = true := beq_iff_eq.mpr c48
                                        have c48b1 : ((Int.tmod (rd l1 x25_2) 3) != 2) = false := bne_eq_false_iff_eq.mpr c48
                                        clear c48
                                        by_cases c49 : x25_2 = (wrap64 ((l0.length : Int) - 1))
                                        · rw [if_pos c49] at H
                                          have c49b0 : (x25_2 == (wrap64 ((l0.length : Int) - 1))) = true := beq_iff_eq.mpr c49
                                          have c49b1 : (x25_2 != (wrap64 ((l0.length : Int) - 1))) = false := bne_eq_false_iff_eq.mpr c49
                                          clear c49
                                          by_cases c50 : x6_2.size + x8_3.size ≤ 9223372036854775807
                                          · rw [if_pos c50] at H
                                            have c50b0 := eq_true c50
                                            have c50b1 : decide (x6_2.size + x8_3.size ≤ 9223372036854775807) = true := decide_eq_true c50
                                            try have c50b2 : (9223372036854775807 < x6_2.size + x8_3.size) = False := eq_false (Nat.not_lt.2 c50)
                                            by_cases c51 : (x6_2 ++ x8_3).size + 1 ≤ 9223372036854775807
                                            · rw [if_pos c51] at H
                                              have c51b0 := eq_true c51
                                              have c51b1 : decide ((x6_2 ++ x8_3).size + 1 ≤ 9223372036854775807) = true := decide_eq_true c51
                                              try have c51b2 : (9223372036854775807 < (x6_2 ++ x8_3).size + 1) = False := eq_false (Nat.not_lt.2 c51)
                                              (try (have c51s := c51; simp only [ByteArray.size_append] at c51s; have c51s0 := eq_true c51s; have c51s1 := decide_eq_true c51s; have c51s2 := eq_false (Nat.not_lt.2 c51s); clear c51s))
                                              have H' := Aside0.mk H
                                              clear H
                                              have p143 : 0 ≤ (x25_2 : Int) := of_decide_eq_true (by first | (with_reducible assumption) | assumption)
                                              have q143 : x25_2 < (l1.length : Int) := of_decide_eq_true (by first | (with_reducible assumption) | assumption)
                                              obtain ⟨ad143, e143, hx143_0⟩ := Kd.at_int HR1.out x25_2 p143 q143
                                              cases e143
                                              replace hx143_0 := (HB.out.cell (World.block_lt_of_cell? w _ hx143_0)).trans hx143_0
                                              replace p143 := eq_true p143
                                              replace q143 := eq_true q143
                                              go_wp2
                                              go_roundg kj29
                                              case measure => have := HJ2.out; have := HK2.out; have := HK3.out; have := HJ29.out; omega
                                              case rel => exact ⟨(((x5_2 ++ x8_3) ++ (⟨#[10]⟩ : ByteArray))), ((x6_2 ++ x8_3) ++ (⟨#[13]⟩ : ByteArray)), (wrap64 (x25_2 + 1)), (by first | rfl | (simp; done) | (simp [*]; done)), (by first | rfl | (simp; done) | (simp [*]; done)), (by first | rfl | (simp; done) | (simp [*]; done)), H', ⟨by have := HJ2.out; have := HK2.out; have := HK3.out; have := HJ29.out; omega⟩, ⟨by repeat (first | (with_reducible first | exact HB.out | apply below_alloc | apply pw_below_drewN | apply below_drew1) | exact HB.out)⟩⟩
                                            · rw [if_neg c51] at H
                                              exact absurd H (by simp)
                                          · rw [if_neg c50] at H
                                            exact absurd H (by simp)
                                        · rw [if_neg c49] at H
                                          have c49b0 : (x25_2 == (wrap64 ((l0.length : Int) - 1))) = false := beq_eq_false_iff_ne.mpr c49
                                          have c49b1 : (x25_2 != (wrap64 ((l0.length : Int) - 1))) = true := bne_iff_ne.mpr c49
                                          by_cases c52 : x6_2.size + x8_3.size ≤ 9223372036854775807
                                          · rw [if_pos c52] at H
                                            have c52b0 := eq_true c52
                                            have c52b1 : decide (x6_2.size + x8_3.size ≤ 9223372036854775807) = true := decide_eq_true c52
                                            try have c52b2 : (9223372036854775807 < x6_2.size + x8_3.size) = False := eq_false (Nat.not_lt.2 c52)
                                            by_cases c53 : (x6_2 ++ x8_3).size + (⟨#[10]⟩ : ByteArray).size ≤ 9223372036854775807
                                            · rw [if_pos c53] at H
                                              have c53b0 := eq_true c53
                                              have c53b1 : decide ((x6_2 ++ x8_3).size + (⟨#[10]⟩ : ByteArray).size ≤ 9223372036854775807) = true := decide_eq_true c53
                                              try have c53b2 : (9223372036854775807 < (x6_2 ++ x8_3).size + (⟨#[10]⟩ : ByteArray).size) = False := eq_false (Nat.not_lt.2 c53)
                                              (try (have c53s := c53; simp only [ByteArray.size_append] at c53s; have c53s0 := eq_true c53s; have c53s1 := decide_eq_true c53s; have c53s2 := eq_false (Nat.not_lt.2 c53s); clear c53s))
                                              have H' := Aside0.mk H
                                              clear H
                                              have p143 : 0 ≤ (x25_2 : Int) := of_decide_eq_true (by first | (with_reducible assumption) | assumption)
                                              have q143 : x25_2 < (l1.length : Int) := of_decide_eq_true (by first | (with_reducible assumption) | assumption)
                                              obtain ⟨ad143, e143, hx143_0⟩ := Kd.at_int HR1.out x25_2 p143 q143
                                              cases e143
                                              replace hx143_0 := (HB.out.cell (World.block_lt_of_cell? w _ hx143_0)).trans hx143_0
                                              replace p143 := eq_true p143
                                              replace q143 := eq_true q143
                                              go_wp2
                                              go_roundg kj29
                                              case measure => have := HJ2.out; have := HK2.out; have := HK3.out; have := HJ29.out; omega
                                              case rel => exact ⟨(((x5_2 ++ x8_3) ++ (⟨#[10]⟩ : ByteArray))), ((x6_2 ++ x8_3) ++ (⟨#[10]⟩ : ByteArray)), (wrap64 (x25_2 + 1)), (by first | rfl | (simp; done) | (simp [*]; done)), (by first | rfl | (simp; done) | (simp [*]; done)), (by first | rfl | (simp; done) | (simp [*]; done)), H', ⟨by have := HJ2.out; have := HK2.out; have := HK3.out; have := HJ29.out; omega⟩, ⟨by repeat (first | (with_reducible first | exact HB.out | apply below_alloc | apply pw_below_drewN | apply below_drew1) | exact HB.out)⟩⟩
                                            · rw [if_neg c53] at H
                                              exact absurd H (by simp)
                                          · rw [if_neg c52] at H
                                            exact absurd H (by simp)
                                      · rw [if_neg c48] at H
                                        have c48b0 : ((Int.tmod (rd l1 x25_2) 3) == 2) = false := beq_eq_false_iff_ne.mpr c48
                                        have c48b1 : ((Int.tmod (rd l1 x25_2) 3) != 2) = true := bne_iff_ne.mpr c48
                                        by_cases c54 : x6_2.size + x8_3.size ≤ 9223372036854775807
                                        · rw [if_pos c54] at H
                                          have c54b0 := eq_true c54
                                          have c54b1 : decide (x6_2.size + x8_3.size ≤ 9223372036854775807) = true := decide_eq_true c54
                                          try have c54b2 : (9223372036854775807 < x6_2.size + x8_3.size) = False := eq_false (Nat.not_lt.2 c54)
                                          by_cases c55 : (x6_2 ++ x8_3).size + (⟨#[10]⟩ : ByteArray).size ≤ 9223372036854775807
                                          · rw [if_pos c55] at H
                                            have c55b0 := eq_true c55
                                            have c55b1 : decide ((x6_2 ++ x8_3).size + (⟨#[10]⟩ : ByteArray).size ≤ 9223372036854775807) = true := decide_eq_true c55
                                            try have c55b2 : (9223372036854775807 < (x6_2 ++ x8_3).size + (⟨#[10]⟩ : ByteArray).size) = False := eq_false (Nat.not_lt.2 c55)
                                            (try (have c55s := c55; simp only [ByteArray.size_append] at c55s; have c55s0 := eq_true c55s; have c55s1 := decide_eq_true c55s; have c55s2 := eq_false (Nat.not_lt.2 c55s); clear c55s))
                                            have H' := Aside0.mk H
                                            clear H
                                            have p143 : 0 ≤ (x25_2 : Int) := of_decide_eq_true (by first | (with_reducible assumption) | assumption)
                                            have q143 : x25_2 < (l1.length : Int) := of_decide_eq_true (by first | (with_reducible assumption) | assumption)
                                            obtain ⟨ad143, e143, hx143_0⟩ := Kd.at_int HR1.out x25_2 p143 q143
                                            cases e143
                                            replace hx143_0 := (HB.out.cell (World.block_lt_of_cell? w _ hx143_0)).trans hx143_0
                                            replace p143 := eq_true p143
                                            replace q143 := eq_true q143
                                            go_wp2
                                            go_roundg kj29
                                            case measure => have := HJ2.out; have := HK2.out; have := HK3.out; have := HJ29.out; omega
                                            case rel => exact ⟨(((x5_2 ++ x8_3) ++ (⟨#[10]⟩ : ByteArray))), ((x6_2 ++ x8_3) ++ (⟨#[10]⟩ : ByteArray)), (wrap64 (x25_2 + 1)), (by first | rfl | (simp; done) | (simp [*]; done)), (by first | rfl | (simp; done) | (simp [*]; done)), (by first | rfl | (simp; done) | (simp [*]; done)), H', ⟨by have := HJ2.out; have := HK2.out; have := HK3.out; have := HJ29.out; omega⟩, ⟨by repeat (first | (with_reducible first | exact HB.out | apply below_alloc | apply pw_below_drewN | apply below_drew1) | exact HB.out)⟩⟩
                                          · rw [if_neg c55] at H
                                            exact absurd H (by simp)
                                        · rw [if_neg c54] at H
                                          exact absurd H (by simp)
                                    · rw [if_neg c47] at H
                                      exact absurd H (by simp)
                                  · rw [if_neg c46] at H
                                    have c46b0 : decide (x25_2 < (l1.length : Int)) = false := decide_eq_false c46
                                    clear c46
                                    by_cases c56 : x6_2.size + x8_3.size ≤ 9223372036854775807
                                    · rw [if_pos c56] at H
                                      have c56b0 := eq_true c56
                                      have c56b1 : decide (x6_2.size + x8_3.size ≤ 9223372036854775807) = true := decide_eq_true c56
                                      try have c56b2 : (9223372036854775807 < x6_2.size + x8_3.size) = False := eq_false (Nat.not_lt.2 c56)
                                      by_cases c57 : (x6_2 ++ x8_3).size + (⟨#[10]⟩ : ByteArray).size ≤ 9223372036854775807
                                      · rw [if_pos c57] at H
                                        have c57b0 := eq_true c57
                                        have c57b1 : decide ((x6_2 ++ x8_3).size + (⟨#[10]⟩ : ByteArray).size ≤ 9223372036854775807) = true := decide_eq_true c57
                                        try have c57b2 : (9223372036854775807 < (x6_2 ++ x8_3).size + (⟨#[10]⟩ : ByteArray).size) = False := eq_false (Nat.not_lt.2 c57)
                                        (try (have c57s := c57; simp only [ByteArray.size_append] at c57s; have c57s0 := eq_true c57s; have c57s1 := decide_eq_true c57s; have c57s2 := eq_false (Nat.not_lt.2 c57s); clear c57s))
                                        have H' := Aside0.mk H
                                        clear H
                                        go_wp2
                                        go_roundg kj29
                                        case measure => have := HJ2.out; have := HK2.out; have := HK3.out; have := HJ29.out; omega
                                        case rel => exact ⟨(((x5_2 ++ x8_3) ++ (⟨#[10]⟩ : ByteArray))), ((x6_2 ++ x8_3) ++ (⟨#[10]⟩ : ByteArray)), (wrap64 (x25_2 + 1)), (by first | rfl | (simp; done) | (simp [*]; done)), (by first | rfl | (simp; done) | (simp [*]; done)), (by first | rfl | (simp; done) | (simp [*]; done)), H', ⟨by have := HJ2.out; have := HK2.out; have := HK3.out; have := HJ29.out; omega⟩, ⟨by repeat (first | (with_reducible first | exact HB.out | apply below_alloc | apply pw_below_drewN | apply below_drew1) | exact HB.out)⟩⟩
                                      · rw [if_neg c57] at H
                                        exact absurd H (by simp)
                                    · rw [if_neg c56] at H
                                      exact absurd H (by simp)
                          · rw [if_neg c29] at H
                            exact absurd H (by simp)
                        · rw [if_neg c28] at H
                          exact absurd H (by simp)
                · rw [if_neg c14] at H
                  exact absurd H (by simp)
              · rw [if_neg c13] at H
                exact absurd H (by simp)
            · rw [if_neg c12] at H
              have c12b0 : decide (x25_2 < (l0.length : Int)) = false := decide_eq_false c12
              clear c12
              replace H := Option.bind_eq_some_iff.mp H
              obtain ⟨⟨t128, t129⟩, A580, H⟩ := H
              replace H : ((lines_Split.f k2 x6_2).bind fun bt132 => ((emendationref02_Same.f k2 t128 bt132.1).bind fun t136 => (if t136 = true then (if (t129 == bt132.2) = true then (some ((t128.length : Int) == (l0.length : Int))) else (some false)) else (some false)))) = some r := H
              have A58 := Aside0.mk A580
              clear A580
              replace H := Option.bind_eq_some_iff.mp H
              obtain ⟨⟨t132, t133⟩, A590, H⟩ := H
              replace H : ((emendationref02_Same.f k2 t128 t132).bind fun t136 => (if t136 = true then (if (t129 == t133) = true then (some ((t128.length : Int) == (l0.length : Int))) else (some false)) else (some false))) = some r := H
              have A59 := Aside0.mk A590
              clear A590
              replace H := Option.bind_eq_some_iff.mp H
              obtain ⟨t136, A600, H⟩ := H
              replace H : (if t136 = true then (if (t129 == t133) = true then (some ((t128.length : Int) == (l0.length : Int))) else (some false)) else (some false)) = some r := H
              have A60 := Aside0.mk A600
              clear A600
              by_cases c61 : t136 = true
              · subst c61
                have H1 : (if (t129 == t133) = true then (some ((t128.length : Int) == (l0.length : Int))) else (some false)) = some r := by rw [if_pos rfl] at H; exact H
                clear H
                have H := H1
                clear H1
                by_cases c62 : (t129 == t133) = true
                · rw [if_pos c62] at H
                  have c62b0 : (t129 == t133) = true := c62
                  (try (have c62b1 : decide (t129 = t133) = true := by simpa using c62))
                  (try (have c62b2 : (t129 == t133) = true := by simpa using c62))
                  clear c62
                  obtain rfl := Option.some.inj H
                  go_wp2_with (first | ((with_reducible refine gate_callee (f := 12) rfl ?_); refine goesL_ (some 106) rfl rfl Tryd.func12 (by kernel_rfl) rfl #[.string x5_2] rfl (by (try simp only [List.map_toArray, List.map_cons, List.map_nil]); first | done | rfl | (simp only [List.length_drop, List.length_take]; rfl)) ?_; (with_reducible refine (lines_Split.calls k2 x5_2 t128 t129 _ A58.out).mono ?_); rintro e w63 ⟨v130, rfl, ho0, hb⟩; refine ⟨_, rfl, ?_⟩; have n0_ := Aside0.mk (Kd.R_lower ho0 (below_size (by repeat (first | (with_reducible first | exact HB.out | apply below_alloc | apply pw_below_drewN | apply below_drew1) | exact HB.out)))); have n1_ := Aside0.mk (below_step (by repeat (first | (with_reducible first | exact HB.out | apply below_alloc | apply pw_below_drewN | apply below_drew1) | exact HB.out)) hb); clear HB; have HO131 := n0_; have HB := n1_; clear n0_ n1_; (try clear hb); (try clear hb2); (try clear hk); (try clear hi); (try clear ho0)) | ((with_reducible refine gate_callee (f := 12) rfl ?_); refine goesL_ (some 111) rfl rfl Tryd.func12 (by kernel_rfl) rfl #[.string x6_2] rfl (by (try simp only [List.map_toArray, List.map_cons, List.map_nil]); first | done | rfl | (simp only [List.length_drop, List.length_take]; rfl)) ?_; (with_reducible refine (lines_Split.calls k2 x6_2 t132 t133 _ A59.out).mono ?_); rintro e w64 ⟨v134, rfl, ho0, hb⟩; refine ⟨_, rfl, ?_⟩; have n0_ := Aside0.mk (Kd.R_elder' (by (with_reducible repeat (first | apply Kd.R_alloc | apply Kd.R_drewN | apply Kd.R_drew)); exact HO131.out) (Kd.R_base ho0) hb); have n1_ := Aside0.mk (Kd.R_lower (Kd.R_new' ho0 (Kd.R_lt (by (with_reducible repeat (first | apply Kd.R_alloc | apply Kd.R_drewN | apply Kd.R_drew)); exact HO131.out))) (below_size (by repeat (first | (with_reducible first | exact HB.out | apply below_alloc | apply pw_below_drewN | apply below_drew1) | exact HB.out)))); have n2_ := Aside0.mk (below_step (by repeat (first | (with_reducible first | exact HB.out | apply below_alloc | apply pw_below_drewN | apply below_drew1) | exact HB.out)) hb); clear HO131; clear HB; have HO131 := n0_; have HO135 := n1_; have HB := n2_; clear n0_ n1_ n2_; (try clear hb); (try clear hb2); (try clear hk); (try clear hi); (try clear ho0); obtain ⟨Ao65, co65, eo65⟩ := Kd.R_slice HO131.out; subst eo65; obtain ⟨Ao66, co66, eo66⟩ := Kd.R_slice HO135.out; subst eo66) | ((with_reducible refine gate_callee (f := 13) rfl ?_); refine goesL_ (some 116) rfl rfl Tryd.func13 (by kernel_rfl) rfl #[.slice Ao65 t128.length co65, .slice Ao66 t132.length co66] rfl (by (try simp only [List.map_toArray, List.map_cons, List.map_nil]); first | done | rfl | (simp only [List.length_drop, List.length_take]; rfl)) ?_; (with_reducible refine (emendationref02_Same.calls k2 _ _ t128 _ _ t132 true _ ?side1 ?side2 ?side3 ?side4 A60.out).mono ?_); (case side1 => repeat (first | exact (Kd.R_reads' HO131.out).2.2 | (with_reducible refine Kd.C_alloc ?_ _) | (with_reducible refine Kd.C_drewN ?_ _) | (with_reducible refine Kd.C_drew ?_))); (case side2 => exact (Kd.R_reads' HO131.out).2.1); (case side3 => repeat (first | exact (Kd.R_reads' HO135.out).2.2 | (with_reducible refine Kd.C_alloc ?_ _) | (with_reducible refine Kd.C_drewN ?_ _) | (with_reducible refine Kd.C_drew ?_))); (case side4 => exact (Kd.R_reads' HO135.out).2.1); rintro e w' ⟨rfl, ⟨nd, rfl⟩⟩; refine ⟨_, rfl, ?_⟩))
                  go_ret
                  exact ⟨by first | rfl | (simp [errW_none, errW_some] <;> rfl) | (simp [*, errW_none, errW_some] <;> rfl), by repeat (first | (with_reducible first | exact HB.out | apply below_alloc | apply pw_below_drewN | apply below_drew1) | exact HB.out)⟩
                · rw [if_neg c62] at H
                  have c62b0 : (t129 == t133) = false := by simpa using c62
                  (try (have c62b1 : decide (t129 = t133) = false := by simpa using c62))
                  (try (have c62b2 : (t129 == t133) = false := by simpa using c62))
                  (try (have c62b3 : ¬ (t129 = t133) := by simpa using c62))
                  clear c62
                  obtain rfl := Option.some.inj H
                  go_wp2_with (first | ((with_reducible refine gate_callee (f := 12) rfl ?_); refine goesL_ (some 106) rfl rfl Tryd.func12 (by kernel_rfl) rfl #[.string x5_2] rfl (by (try simp only [List.map_toArray, List.map_cons, List.map_nil]); first | done | rfl | (simp only [List.length_drop, List.length_take]; rfl)) ?_; (with_reducible refine (lines_Split.calls k2 x5_2 t128 t129 _ A58.out).mono ?_); rintro e w67 ⟨v130, rfl, ho0, hb⟩; refine ⟨_, rfl, ?_⟩; have n0_ := Aside0.mk (Kd.R_lower ho0 (below_size (by repeat (first | (with_reducible first | exact HB.out | apply below_alloc | apply pw_below_drewN | apply below_drew1) | exact HB.out)))); have n1_ := Aside0.mk (below_step (by repeat (first | (with_reducible first | exact HB.out | apply below_alloc | apply pw_below_drewN | apply below_drew1) | exact HB.out)) hb); clear HB; have HO131 := n0_; have HB := n1_; clear n0_ n1_; (try clear hb); (try clear hb2); (try clear hk); (try clear hi); (try clear ho0)) | ((with_reducible refine gate_callee (f := 12) rfl ?_); refine goesL_ (some 111) rfl rfl Tryd.func12 (by kernel_rfl) rfl #[.string x6_2] rfl (by (try simp only [List.map_toArray, List.map_cons, List.map_nil]); first | done | rfl | (simp only [List.length_drop, List.length_take]; rfl)) ?_; (with_reducible refine (lines_Split.calls k2 x6_2 t132 t133 _ A59.out).mono ?_); rintro e w68 ⟨v134, rfl, ho0, hb⟩; refine ⟨_, rfl, ?_⟩; have n0_ := Aside0.mk (Kd.R_elder' (by (with_reducible repeat (first | apply Kd.R_alloc | apply Kd.R_drewN | apply Kd.R_drew)); exact HO131.out) (Kd.R_base ho0) hb); have n1_ := Aside0.mk (Kd.R_lower (Kd.R_new' ho0 (Kd.R_lt (by (with_reducible repeat (first | apply Kd.R_alloc | apply Kd.R_drewN | apply Kd.R_drew)); exact HO131.out))) (below_size (by repeat (first | (with_reducible first | exact HB.out | apply below_alloc | apply pw_below_drewN | apply below_drew1) | exact HB.out)))); have n2_ := Aside0.mk (below_step (by repeat (first | (with_reducible first | exact HB.out | apply below_alloc | apply pw_below_drewN | apply below_drew1) | exact HB.out)) hb); clear HO131; clear HB; have HO131 := n0_; have HO135 := n1_; have HB := n2_; clear n0_ n1_ n2_; (try clear hb); (try clear hb2); (try clear hk); (try clear hi); (try clear ho0); obtain ⟨Ao69, co69, eo69⟩ := Kd.R_slice HO131.out; subst eo69; obtain ⟨Ao70, co70, eo70⟩ := Kd.R_slice HO135.out; subst eo70) | ((with_reducible refine gate_callee (f := 13) rfl ?_); refine goesL_ (some 116) rfl rfl Tryd.func13 (by kernel_rfl) rfl #[.slice Ao69 t128.length co69, .slice Ao70 t132.length co70] rfl (by (try simp only [List.map_toArray, List.map_cons, List.map_nil]); first | done | rfl | (simp only [List.length_drop, List.length_take]; rfl)) ?_; (with_reducible refine (emendationref02_Same.calls k2 _ _ t128 _ _ t132 true _ ?side1 ?side2 ?side3 ?side4 A60.out).mono ?_); (case side1 => repeat (first | exact (Kd.R_reads' HO131.out).2.2 | (with_reducible refine Kd.C_alloc ?_ _) | (with_reducible refine Kd.C_drewN ?_ _) | (with_reducible refine Kd.C_drew ?_))); (case side2 => exact (Kd.R_reads' HO131.out).2.1); (case side3 => repeat (first | exact (Kd.R_reads' HO135.out).2.2 | (with_reducible refine Kd.C_alloc ?_ _) | (with_reducible refine Kd.C_drewN ?_ _) | (with_reducible refine Kd.C_drew ?_))); (case side4 => exact (Kd.R_reads' HO135.out).2.1); rintro e w' ⟨rfl, ⟨nd, rfl⟩⟩; refine ⟨_, rfl, ?_⟩))
                  go_ret
                  exact ⟨by first | rfl | (simp [errW_none, errW_some] <;> rfl) | (simp [*, errW_none, errW_some] <;> rfl), by repeat (first | (with_reducible first | exact HB.out | apply below_alloc | apply pw_below_drewN | apply below_drew1) | exact HB.out)⟩
              · replace c61 := Bool.eq_false_iff.mpr c61
                subst c61
                have H1 : (some false) = some r := by rw [if_neg (show ¬ (false = true) by decide)] at H; exact H
                clear H
                have H := H1
                clear H1
                obtain rfl := Option.some.inj H
                go_wp2_with (first | ((with_reducible refine gate_callee (f := 12) rfl ?_); refine goesL_ (some 106) rfl rfl Tryd.func12 (by kernel_rfl) rfl #[.string x5_2] rfl (by (try simp only [List.map_toArray, List.map_cons, List.map_nil]); first | done | rfl | (simp only [List.length_drop, List.length_take]; rfl)) ?_; (with_reducible refine (lines_Split.calls k2 x5_2 t128 t129 _ A58.out).mono ?_); rintro e w71 ⟨v130, rfl, ho0, hb⟩; refine ⟨_, rfl, ?_⟩; have n0_ := Aside0.mk (Kd.R_lower ho0 (below_size (by repeat (first | (with_reducible first | exact HB.out | apply below_alloc | apply pw_below_drewN | apply below_drew1) | exact HB.out)))); have n1_ := Aside0.mk (below_step (by repeat (first | (with_reducible first | exact HB.out | apply below_alloc | apply pw_below_drewN | apply below_drew1) | exact HB.out)) hb); clear HB; have HO131 := n0_; have HB := n1_; clear n0_ n1_; (try clear hb); (try clear hb2); (try clear hk); (try clear hi); (try clear ho0)) | ((with_reducible refine gate_callee (f := 12) rfl ?_); refine goesL_ (some 111) rfl rfl Tryd.func12 (by kernel_rfl) rfl #[.string x6_2] rfl (by (try simp only [List.map_toArray, List.map_cons, List.map_nil]); first | done | rfl | (simp only [List.length_drop, List.length_take]; rfl)) ?_; (with_reducible refine (lines_Split.calls k2 x6_2 t132 t133 _ A59.out).mono ?_); rintro e w72 ⟨v134, rfl, ho0, hb⟩; refine ⟨_, rfl, ?_⟩; have n0_ := Aside0.mk (Kd.R_elder' (by (with_reducible repeat (first | apply Kd.R_alloc | apply Kd.R_drewN | apply Kd.R_drew)); exact HO131.out) (Kd.R_base ho0) hb); have n1_ := Aside0.mk (Kd.R_lower (Kd.R_new' ho0 (Kd.R_lt (by (with_reducible repeat (first | apply Kd.R_alloc | apply Kd.R_drewN | apply Kd.R_drew)); exact HO131.out))) (below_size (by repeat (first | (with_reducible first | exact HB.out | apply below_alloc | apply pw_below_drewN | apply below_drew1) | exact HB.out)))); have n2_ := Aside0.mk (below_step (by repeat (first | (with_reducible first | exact HB.out | apply below_alloc | apply pw_below_drewN | apply below_drew1) | exact HB.out)) hb); clear HO131; clear HB; have HO131 := n0_; have HO135 := n1_; have HB := n2_; clear n0_ n1_ n2_; (try clear hb); (try clear hb2); (try clear hk); (try clear hi); (try clear ho0); obtain ⟨Ao73, co73, eo73⟩ := Kd.R_slice HO131.out; subst eo73; obtain ⟨Ao74, co74, eo74⟩ := Kd.R_slice HO135.out; subst eo74) | ((with_reducible refine gate_callee (f := 13) rfl ?_); refine goesL_ (some 116) rfl rfl Tryd.func13 (by kernel_rfl) rfl #[.slice Ao73 t128.length co73, .slice Ao74 t132.length co74] rfl (by (try simp only [List.map_toArray, List.map_cons, List.map_nil]); first | done | rfl | (simp only [List.length_drop, List.length_take]; rfl)) ?_; (with_reducible refine (emendationref02_Same.calls k2 _ _ t128 _ _ t132 false _ ?side1 ?side2 ?side3 ?side4 A60.out).mono ?_); (case side1 => repeat (first | exact (Kd.R_reads' HO131.out).2.2 | (with_reducible refine Kd.C_alloc ?_ _) | (with_reducible refine Kd.C_drewN ?_ _) | (with_reducible refine Kd.C_drew ?_))); (case side2 => exact (Kd.R_reads' HO131.out).2.1); (case side3 => repeat (first | exact (Kd.R_reads' HO135.out).2.2 | (with_reducible refine Kd.C_alloc ?_ _) | (with_reducible refine Kd.C_drewN ?_ _) | (with_reducible refine Kd.C_drew ?_))); (case side4 => exact (Kd.R_reads' HO135.out).2.1); rintro e w' ⟨rfl, ⟨nd, rfl⟩⟩; refine ⟨_, rfl, ?_⟩))
                go_ret
                exact ⟨by first | rfl | (simp [errW_none, errW_some] <;> rfl) | (simp [*, errW_none, errW_some] <;> rfl), by repeat (first | (with_reducible first | exact HB.out | apply below_alloc | apply pw_below_drewN | apply below_drew1) | exact HB.out)⟩

end Go.Proofs.YtpofifheicbilaaDoor.X
