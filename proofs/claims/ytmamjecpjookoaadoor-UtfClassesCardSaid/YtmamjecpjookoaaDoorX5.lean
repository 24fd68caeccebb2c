-- Written by a program of this session (wip/mkprint.py over the kit's print) out of the translation; Lean checks it.
import Derived.Test.YtmamjecpjookoaaDoorX0
import Derived.Test.YtmamjecpjookoaaDoorX4
namespace Go.Proofs.YtmamjecpjookoaaDoor.X
open Go.RowKit Go.Proofs.YtmamjecpjookoaaDoor.G Go.Proofs.YtmamjecpjookoaaDoorW.PrintWords Go.Proofs.YtmamjecpjookoaaDoorW.PrintLast Go.Proofs.YtmamjecpjookoaaDoorW.PrintMore
attribute [local go_sem] max2_int min2_int max_two min_two max_three min_three max_four min_four   -- for this text's walks alone
set_option linter.unusedVariables false
set_option linter.unusedSimpArgs false

/-! ### utf_Fold: function 15 -/
def utf_Fold.l0 : Nat → List Int → List Int → List Int → Int → Int → Option (ByteArray)
  | 0, _, _, _, _, _ => none
  | k + 1, x3, x4, x13, x14, x15 => if x15 < x14 then (if 0 ≤ x15 then (if x15 < (x13.length : Int) then ((utf_gap.f k (wrap32 (rd x13 x15))).bind fun t148 => (if t148 = true then (if 0 ≤ (wrap64 (x15 - 1)) then (if (wrap64 (x15 - 1)) < (x3.length : Int) then ((utf_gap.f k (wrap32 (rd x3 (wrap64 (x15 - 1))))).bind fun t150 => (if t150 = true then (utf_Fold.l0 k x3 x4 x13 x14 (wrap64 (x15 + 1))) else (if x4.length < 140737488355328 then (utf_Fold.l0 k x3 (x4 ++ [32]) x13 x14 (wrap64 (x15 + 1))) else (none)))) else (none)) else (none)) else ((utf_lower.f (rd x13 x15)).bind fun t154 => (if x4.length < 140737488355328 then (utf_Fold.l0 k x3 (x4 ++ [t154]) x13 x14 (wrap64 (x15 + 1))) else (none))))) else (none)) else (none)) else (some (strOfNums x4))
def utf_Fold.f (k : Nat) (a0 : ByteArray) : Option (ByteArray) := (strings_Trim.f a0 (⟨#[9, 10, 13, 32]⟩ : ByteArray)).bind fun t140 => (if t140.size ≤ 9223372036854775807 then ((some (bytesOf t140 : List Int)).bind fun y141 => (if 0 ≤ (y141.length : Int) then (if ((y141.length : Int) : Int).toNat ≤ 281474976710656 then (utf_Fold.l0 k y141 (([] : List Int)) y141 (y141.length : Int) 0) else (none)) else (none))) else (none))
theorem utf_Fold.mono_l : ∀ k, (∀ y0 y1 y2 y3 y4, LeO (utf_Fold.l0 k y0 y1 y2 y3 y4) (utf_Fold.l0 (k + 1) y0 y1 y2 y3 y4))
  | 0 => fun _ _ _ _ _ r h => by simp [utf_Fold.l0] at h
  | k + 1 => by
    have ih0 := utf_Fold.mono_l k
    · intro y0 y1 y2 y3 y4
      unfold utf_Fold.l0
      repeat' first
      | (with_reducible exact ih0 _ _ _ _ _)
      | (with_reducible exact utf_gap.mono _ _)
      | (with_reducible exact LeO.refl _)
      | (with_reducible exact LeO.none _)
      | (with_reducible refine LeO.ite ?_ ?_)
      | (with_reducible refine LeO.bind ?_ (fun _ => ?_))
      | exact ih0 _ _ _ _ _
      | exact utf_gap.mono _ _
      | exact LeO.none _
      | refine LeO.ite ?_ ?_
      | refine LeO.bind ?_ (fun _ => ?_)
theorem utf_Fold.mono : ∀ a0 k, LeO (utf_Fold.f k a0) (utf_Fold.f (k + 1) a0) := by
  intro a0 k
  have ih0 := utf_Fold.mono_l k
  unfold utf_Fold.f
  repeat' first
      | (with_reducible exact ih0 _ _ _ _ _)
      | (with_reducible exact utf_gap.mono _ _)
      | (with_reducible exact LeO.refl _)
      | (with_reducible exact LeO.none _)
      | (with_reducible refine LeO.ite ?_ ?_)
      | (with_reducible refine LeO.bind ?_ (fun _ => ?_))
      | exact ih0 _ _ _ _ _
      | exact utf_gap.mono _ _
      | exact LeO.none _
      | refine LeO.ite ?_ ?_
      | refine LeO.bind ?_ (fun _ => ?_)
set_option maxHeartbeats 8000000 in
set_option maxRecDepth 100000 in
theorem utf_Fold.calls (k : Nat) (a0 : ByteArray) (r : ByteArray) (w : World) (h : utf_Fold.f k a0 = some r) :
    Calls Tryd.prog 15 #[.string a0] w fun e w' => e = .returned (.string r) ∧ Below w.heap.size w w' := by
  have HB := Aside0.mk (Below.refl w.heap.size w)
  have H : ((strings_Trim.f a0 (⟨#[9, 10, 13, 32]⟩ : ByteArray)).bind fun t140 => (if t140.size ≤ 9223372036854775807 then ((some (bytesOf t140 : List Int)).bind fun y141 => (if 0 ≤ (y141.length : Int) then (if ((y141.length : Int) : Int).toNat ≤ 281474976710656 then (utf_Fold.l0 k y141 (([] : List Int)) y141 (y141.length : Int) 0) else (none)) else (none))) else (none))) = some r := h
  clear h
  replace H := Option.bind_eq_some_iff.mp H
  obtain ⟨t140, A20, H⟩ := H
  replace H : (if t140.size ≤ 9223372036854775807 then ((some (bytesOf t140 : List Int)).bind fun y141 => (if 0 ≤ (y141.length : Int) then (if ((y141.length : Int) : Int).toNat ≤ 281474976710656 then (utf_Fold.l0 k y141 (([] : List Int)) y141 (y141.length : Int) 0) else (none)) else (none))) else (none)) = some r := H
  have A2 := Aside0.mk A20
  clear A20
  by_cases c3 : t140.size ≤ 9223372036854775807
  · rw [if_pos c3] at H
    have c3b0 := eq_true c3
    have c3b1 : decide (t140.size ≤ 9223372036854775807) = true := decide_eq_true c3
    try have c3b2 : (9223372036854775807 < t140.size) = False := eq_false (Nat.not_lt.2 c3)
    clear c3
    obtain ⟨y141, hy141⟩ : ∃ y_ : List Int, y_ = (bytesOf t140) := ⟨_, rfl⟩
    replace H : (if 0 ≤ (y141.length : Int) then (if ((y141.length : Int) : Int).toNat ≤ 281474976710656 then (utf_Fold.l0 k y141 (([] : List Int)) y141 (y141.length : Int) 0) else (none)) else (none)) = some r := by first | (rw [hy141]; with_reducible exact H) | (have H2_ := (Option.bind_some _ _).symm.trans H; rw [hy141]; with_reducible exact H2_) | (have H2_ := (Option.bind_some _ _).symm.trans H; with_reducible exact H2_) | with_reducible exact H | (rw [hy141]; exact H) | exact H
    have Ny141 := Aside0.mk hy141
    clear hy141
    by_cases c4 : 0 ≤ (y141.length : Int)
    · rw [if_pos c4] at H
      have c4b0 := eq_true c4
      have c4b1 : decide (0 ≤ (y141.length : Int)) = true := decide_eq_true c4
      clear c4
      by_cases c5 : ((y141.length : Int) : Int).toNat ≤ 281474976710656
      · rw [if_pos c5] at H
        have c5b0 := eq_true c5
        have c5b1 : decide (((y141.length : Int) : Int).toNat ≤ 281474976710656) = true := decide_eq_true c5
        clear c5
        obtain ⟨y144, hy144⟩ : ∃ y_ : List Int, y_ = (([] : List Int)) := ⟨_, rfl⟩
        replace H : (utf_Fold.l0 k y141 y144 y141 (y141.length : Int) 0) = some r := by first | (rw [hy144]; with_reducible exact H) | (have H2_ := (Option.bind_some _ _).symm.trans H; rw [hy144]; with_reducible exact H2_) | (have H2_ := (Option.bind_some _ _).symm.trans H; with_reducible exact H2_) | with_reducible exact H | (rw [hy144]; exact H) | exact H
        have Ny144 := Aside0.mk hy144
        clear hy144
        have H' := Aside0.mk H
        clear H
        go_enter Tryd.func15, Tryd.ntmps15
        go_wp2_with (first | ((with_reducible refine gate_callee (f := 24) rfl ?_); refine goesL_ (some 8) rfl rfl Tryd.func24 (by kernel_rfl) rfl #[.string a0, .string (⟨#[9, 10, 13, 32]⟩ : ByteArray)] rfl (by (try simp only [List.map_toArray, List.map_cons, List.map_nil]); first | done | rfl | (simp only [List.length_drop, List.length_take]; rfl)) ?_; (with_reducible refine (strings_Trim.calls a0 (⟨#[9, 10, 13, 32]⟩ : ByteArray) t140 _ A2.out).mono ?_); rintro e w6 ⟨rfl, hb⟩; refine ⟨_, rfl, ?_⟩; have n0_ := Aside0.mk (below_step (by repeat (first | (with_reducible first | exact HB.out | apply below_alloc | apply pw_below_drewN | apply below_drew1) | exact HB.out)) hb); clear HB; have HB := n0_; clear n0_; (try clear hb); (try clear hb2); (try clear hk); (try clear hi)) | ((with_reducible refine gate_dst (N := 9) rfl ?_); refine Kd.V_conv _ 5 rfl (N := 9) rfl 9 25 _ rfl t140 rfl Tryd.underlying9 Tryd.underlying25 Tryd.underlying5 (of_decide_eq_true (by first | (with_reducible assumption) | assumption | rfl)) (Below.refl _ _) (Nat.le_refl _) ?_; intro v142 w7 ho8 hb hg_ hnew_; clear hg_ hnew_; (first | rw [← Ny141.out] at ho8 | (simp only [Int.reduceToNat] at ho8; rw [← Ny141.out] at ho8)); have n0_ := Aside0.mk (Kd.V_lower (Kd.V_mono (ok' := fun k_ => True) ho8 (fun k_ hk_ => trivial)) (below_size (by repeat (first | (with_reducible first | exact HB.out | apply below_alloc | apply pw_below_drewN | apply below_drew1) | exact HB.out)))); have n1_ := Aside0.mk (below_step (by repeat (first | (with_reducible first | exact HB.out | apply below_alloc | apply pw_below_drewN | apply below_drew1) | exact HB.out)) hb); clear HB; have HO143 := n0_; have HB := n1_; clear n0_ n1_; clear hb ho8; obtain ⟨Ao9, co9, eo9⟩ := Kd.V_slice HO143.out; subst eo9) | ((with_reducible refine gate_dst (N := 12) rfl ?_); refine Kd.R_make0 (Kd.int .u8) _ 5 rfl (N := 12) rfl 25 _ _ rfl (y141.length : Int) rfl rfl Tryd.underlying25 (.int .u8 0) 1 info5 rfl (by decide) (by omega) 0 (ok := fun _ => True) (okp := fun _ => True) rfl (fun _ hk => hk) trivial (of_decide_eq_true (by first | (with_reducible assumption) | assumption)) (Nat.le_trans (Nat.mul_le_mul_right _ (of_decide_eq_true (by first | (with_reducible assumption) | assumption) : (y141.length : Int).toNat ≤ 281474976710656)) (by omega)) (Below.refl _ _) (Nat.le_refl _) ?_; intro v145 w10 ho11 hb hg_ hnew_; clear hg_ hnew_; (first | rw [← Ny144.out] at ho11 | (simp only [Int.reduceToNat] at ho11; rw [← Ny144.out] at ho11)); have n0_ := Aside0.mk (Kd.V_elder' (by (with_reducible repeat (first | apply Kd.V_alloc | apply Kd.V_drewN | apply Kd.V_drew)); exact HO143.out) (Kd.R_base ho11) hb); have n1_ := Aside0.mk (Kd.R_lower ho11 (below_size (by repeat (first | (with_reducible first | exact HB.out | apply below_alloc | apply pw_below_drewN | apply below_drew1) | exact HB.out)))); have n2_ := Aside0.mk (below_step (by repeat (first | (with_reducible first | exact HB.out | apply below_alloc | apply pw_below_drewN | apply below_drew1) | exact HB.out)) hb); clear HO143; clear HB; have HO143 := n0_; have HO146 := n1_; have HB := n2_; clear n0_ n1_ n2_; clear hb ho11))
        go_loopg [4, 15] k (fun kq v4 v15 w' => ∃ (x4_1 : List Int) (x15_1 : Int), v15 = .int .i64 x15_1 ∧ Aside0 (utf_Fold.l0 kq y141 x4_1 y141 (y141.length : Int) x15_1 = some r) ∧ Aside0 (kq ≤ k) ∧ Aside0 (Kd.V (Kd.int .u8) 5 w' w.heap.size (fun k_ => some k_ ≠ (v4 : Value).ownBlock) (.slice Ao9 y141.length co9) y141) ∧ Aside0 (Kd.R (Kd.int .u8) 5 w' w.heap.size (fun _ => True) v4 x4_1) ∧ Aside0 (Kd.V (Kd.int .u8) 5 w' w.heap.size (fun k_ => some k_ ≠ (v4 : Value).ownBlock) (.slice Ao9 y141.length co9) y141) ∧ Aside0 (Below w.heap.size w w'))
        case atStart => exact ⟨(y144), (0), (by first | rfl | (simp; done) | (simp [*]; done) | (simp [bne, beq_nil_E]; done)), H', ⟨Nat.le_refl _⟩, ⟨by (with_reducible repeat (first | apply Kd.V_alloc | apply Kd.V_drewN | apply Kd.V_drew)); exact Kd.V_mono HO143.out (fun _ hk => hk.2)⟩, ⟨by (with_reducible repeat (first | apply Kd.R_alloc | apply Kd.R_drewN | apply Kd.R_drew)); exact HO146.out⟩, ⟨by (with_reducible repeat (first | apply Kd.V_alloc | apply Kd.V_drewN | apply Kd.V_drew)); exact Kd.V_mono HO143.out (fun _ hk => hk.2)⟩, ⟨by repeat (first | (with_reducible first | exact HB.out | apply below_alloc | apply pw_below_drewN | apply below_drew1) | exact HB.out)⟩⟩
        case round =>
          clear H'
          try clear c1
          try clear c2
          try clear p2
          try clear c3
          try clear c3b0
          try clear c3b1
          try clear c3b2
          try clear c4
          try clear c4b0
          try clear c4b1
          try clear c5
          try clear c5b0
          try clear c5b1
          obtain ⟨x4_1, x15_1, rfl, HA, HK1, HO_3, HO_4, HO_13, HB⟩ := hrel
          cases gk with
          | zero => exact absurd HA.out (by simp [utf_Fold.l0])
          | succ k1 =>
            have H := HA.out
            clear HA
            simp only [utf_Fold.l0] at H
            by_cases c12 : x15_1 < (y141.length : Int)
            · rw [if_pos c12] at H
              have c12b0 : decide (x15_1 < (y141.length : Int)) = true := decide_eq_true c12
              clear c12
              by_cases c13 : 0 ≤ x15_1
              · rw [if_pos c13] at H
                have c13b0 : decide (0 ≤ x15_1) = true := decide_eq_true c13
                clear c13
                by_cases c14 : x15_1 < (y141.length : Int)
                · rw [if_pos c14] at H
                  have c14b0 : decide (x15_1 < (y141.length : Int)) = true := decide_eq_true c14
                  clear c14
                  replace H := Option.bind_eq_some_iff.mp H
                  obtain ⟨t148, A150, H⟩ := H
                  replace H : (if t148 = true then (if 0 ≤ (wrap64 (x15_1 - 1)) then (if (wrap64 (x15_1 - 1)) < (y141.length : Int) then ((utf_gap.f k1 (wrap32 (rd y141 (wrap64 (x15_1 - 1))))).bind fun t150 => (if t150 = true then (utf_Fold.l0 k1 y141 x4_1 y141 (y141.length : Int) (wrap64 (x15_1 + 1))) else (if x4_1.length < 140737488355328 then (utf_Fold.l0 k1 y141 (x4_1 ++ [32]) y141 (y141.length : Int) (wrap64 (x15_1 + 1))) else (none)))) else (none)) else (none)) else ((utf_lower.f (rd y141 x15_1)).bind fun t154 => (if x4_1.length < 140737488355328 then (utf_Fold.l0 k1 y141 (x4_1 ++ [t154]) y141 (y141.length : Int) (wrap64 (x15_1 + 1))) else (none)))) = some r := H
                  have A15 := Aside0.mk A150
                  clear A150
                  by_cases c16 : t148 = true
                  · subst c16
                    have H1 : (if 0 ≤ (wrap64 (x15_1 - 1)) then (if (wrap64 (x15_1 - 1)) < (y141.length : Int) then ((utf_gap.f k1 (wrap32 (rd y141 (wrap64 (x15_1 - 1))))).bind fun t150 => (if t150 = true then (utf_Fold.l0 k1 y141 x4_1 y141 (y141.length : Int) (wrap64 (x15_1 + 1))) else (if x4_1.length < 140737488355328 then (utf_Fold.l0 k1 y141 (x4_1 ++ [32]) y141 (y141.length : Int) (wrap64 (x15_1 + 1))) else (none)))) else (none)) else (none)) = some r := by rw [if_pos rfl] at H; exact H
                    clear H
                    have H := H1
                    clear H1
                    obtain ⟨ji17, hji17⟩ : ∃ j_ : Int, (wrap64 (x15_1 - 1)) = j_ := ⟨_, rfl⟩
                    replace H : (if 0 ≤ (ji17) then (if (ji17) < (y141.length : Int) then ((utf_gap.f k1 (wrap32 (rd y141 (ji17)))).bind fun t150 => (if t150 = true then (utf_Fold.l0 k1 y141 x4_1 y141 (y141.length : Int) (wrap64 (x15_1 + 1))) else (if x4_1.length < 140737488355328 then (utf_Fold.l0 k1 y141 (x4_1 ++ [32]) y141 (y141.length : Int) (wrap64 (x15_1 + 1))) else (none)))) else (none)) else (none)) = some r := by first | (rw [hji17] at H; exact H) | (simp only [hji17] at H ⊢; exact H)
                    (try rw [hji17] at A15)
                    have hji17w : (IntKind.i64.wrap (x15_1 - 1)) = ji17 := (i64_w _).trans hji17
                    by_cases c18 : 0 ≤ (ji17)
                    · rw [if_pos c18] at H
                      have c18b0 : decide (0 ≤ (ji17)) = true := decide_eq_true c18
                      clear c18
                      by_cases c19 : (ji17) < (y141.length : Int)
                      · rw [if_pos c19] at H
                        have c19b0 : decide ((ji17) < (y141.length : Int)) = true := decide_eq_true c19
                        clear c19
                        replace H := Option.bind_eq_some_iff.mp H
                        obtain ⟨t150, A200, H⟩ := H
                        replace H : (if t150 = true then (utf_Fold.l0 k1 y141 x4_1 y141 (y141.length : Int) (wrap64 (x15_1 + 1))) else (if x4_1.length < 140737488355328 then (utf_Fold.l0 k1 y141 (x4_1 ++ [32]) y141 (y141.length : Int) (wrap64 (x15_1 + 1))) else (none))) = some r := H
                        have A20 := Aside0.mk A200
                        clear A200
                        by_cases c21 : t150 = true
                        · subst c21
                          have H1 : (utf_Fold.l0 k1 y141 x4_1 y141 (y141.length : Int) (wrap64 (x15_1 + 1))) = some r := by rw [if_pos rfl] at H; exact H
                          clear H
                          have H := H1
                          clear H1
                          have H' := Aside0.mk H
                          clear H
                          have p147 : 0 ≤ (x15_1 : Int) := of_decide_eq_true (by first | (with_reducible assumption) | assumption)
                          have q147 : x15_1 < (y141.length : Int) := of_decide_eq_true (by first | (with_reducible assumption) | assumption)
                          obtain ⟨ad147, e147, hx147_0⟩ := Kd.at_int (Kd.V_reads' HO_13.out).2.2 x15_1 p147 q147
                          cases e147
                          replace p147 := eq_true p147
                          replace q147 := eq_true q147
                          go_wp2_with (first | ((with_reducible refine gate_callee (f := 25) rfl ?_); refine goesL_ (some 23) rfl rfl Tryd.func25 (by kernel_rfl) rfl #[.int .i32 (wrap32 (rd y141 x15_1))] rfl (by (try simp only [List.map_toArray, List.map_cons, List.map_nil]); first | done | rfl | (simp only [List.length_drop, List.length_take]; rfl)) ?_; (with_reducible refine (utf_gap.calls k1 (wrap32 (rd y141 x15_1)) true _ A15.out).mono ?_); rintro e w' ⟨rfl, ⟨nd, rfl⟩⟩; refine ⟨_, rfl, ?_⟩; have p149 : 0 ≤ ((ji17) : Int) := of_decide_eq_true (by first | (with_reducible assumption) | assumption); have q149 : (ji17) < (y141.length : Int) := of_decide_eq_true (by first | (with_reducible assumption) | assumption); obtain ⟨ad149, e149, hx149_0⟩ := Kd.at_int (Kd.V_reads' HO_3.out).2.2 (ji17) p149 q149; obtain rfl : ad147 = ad149 := (by injection e149); replace p149 := eq_true p149; replace q149 := eq_true q149) | ((with_reducible refine gate_callee (f := 25) rfl ?_); refine goesL_ (some 37) rfl rfl Tryd.func25 (by kernel_rfl) rfl #[.int .i32 (wrap32 (rd y141 (ji17)))] rfl (by (try simp only [List.map_toArray, List.map_cons, List.map_nil]); first | done | (simp only [hji17]; rfl) | rfl | (simp only [List.length_drop, List.length_take]; rfl)) ?_; (with_reducible refine (utf_gap.calls k1 (wrap32 (rd y141 (ji17))) true _ A20.out).mono ?_); rintro e w' ⟨rfl, ⟨nd, rfl⟩⟩; refine ⟨_, rfl, ?_⟩))
                          go_roundg k1
                          case measure => have := HK1.out; omega
                          case rel => exact ⟨(x4_1), (wrap64 (x15_1 + 1)), (by first | rfl | (simp; done) | (simp [*]; done) | (simp [bne, beq_nil_E]; done)), H', ⟨by have := HK1.out; omega⟩, ⟨by (with_reducible repeat (first | apply Kd.V_alloc | apply Kd.V_drewN | apply Kd.V_drew)); exact HO_3.out⟩, ⟨by (with_reducible repeat (first | apply Kd.R_alloc | apply Kd.R_drewN | apply Kd.R_drew)); exact HO_4.out⟩, ⟨by (with_reducible repeat (first | apply Kd.V_alloc | apply Kd.V_drewN | apply Kd.V_drew)); exact HO_13.out⟩, ⟨by repeat (first | (with_reducible first | exact HB.out | apply below_alloc | apply pw_below_drewN | apply below_drew1) | exact HB.out)⟩⟩
                        · replace c21 := Bool.eq_false_iff.mpr c21
                          subst c21
                          have H1 : (if x4_1.length < 140737488355328 then (utf_Fold.l0 k1 y141 (x4_1 ++ [32]) y141 (y141.length : Int) (wrap64 (x15_1 + 1))) else (none)) = some r := by rw [if_neg (show ¬ (false = true) by decide)] at H; exact H
                          clear H
                          have H := H1
                          clear H1
                          by_cases c22 : x4_1.length < 140737488355328
                          · rw [if_pos c22] at H
                            have LMc22 := Aside0.mk c22
                            clear c22
                            obtain ⟨y151, hy151⟩ : ∃ y_ : List Int, y_ = (x4_1 ++ [32]) := ⟨_, rfl⟩
                            replace H : (utf_Fold.l0 k1 y141 y151 y141 (y141.length : Int) (wrap64 (x15_1 + 1))) = some r := by first | (rw [hy151]; with_reducible exact H) | (have H2_ := (Option.bind_some _ _).symm.trans H; rw [hy151]; with_reducible exact H2_) | (have H2_ := (Option.bind_some _ _).symm.trans H; with_reducible exact H2_) | with_reducible exact H | (rw [hy151]; exact H) | exact H
                            have Ny151 := Aside0.mk hy151
                            clear hy151
                            have H' := Aside0.mk H
                            clear H
                            have p147 : 0 ≤ (x15_1 : Int) := of_decide_eq_true (by first | (with_reducible assumption) | assumption)
                            have q147 : x15_1 < (y141.length : Int) := of_decide_eq_true (by first | (with_reducible assumption) | assumption)
                            obtain ⟨ad147, e147, hx147_0⟩ := Kd.at_int (Kd.V_reads' HO_13.out).2.2 x15_1 p147 q147
                            cases e147
                            replace p147 := eq_true p147
                            replace q147 := eq_true q147
                            go_wp2_with (first | ((with_reducible refine gate_callee (f := 25) rfl ?_); refine goesL_ (some 23) rfl rfl Tryd.func25 (by kernel_rfl) rfl #[.int .i32 (wrap32 (rd y141 x15_1))] rfl (by (try simp only [List.map_toArray, List.map_cons, List.map_nil]); first | done | rfl | (simp only [List.length_drop, List.length_take]; rfl)) ?_; (with_reducible refine (utf_gap.calls k1 (wrap32 (rd y141 x15_1)) true _ A15.out).mono ?_); rintro e w' ⟨rfl, ⟨nd, rfl⟩⟩; refine ⟨_, rfl, ?_⟩; have p149 : 0 ≤ ((ji17) : Int) := of_decide_eq_true (by first | (with_reducible assumption) | assumption); have q149 : (ji17) < (y141.length : Int) := of_decide_eq_true (by first | (with_reducible assumption) | assumption); obtain ⟨ad149, e149, hx149_0⟩ := Kd.at_int (Kd.V_reads' HO_3.out).2.2 (ji17) p149 q149; obtain rfl : ad147 = ad149 := (by injection e149); replace p149 := eq_true p149; replace q149 := eq_true q149) | ((with_reducible refine gate_callee (f := 25) rfl ?_); refine goesL_ (some 37) rfl rfl Tryd.func25 (by kernel_rfl) rfl #[.int .i32 (wrap32 (rd y141 (ji17)))] rfl (by (try simp only [List.map_toArray, List.map_cons, List.map_nil]); first | done | (simp only [hji17]; rfl) | rfl | (simp only [List.length_drop, List.length_take]; rfl)) ?_; (with_reducible refine (utf_gap.calls k1 (wrap32 (rd y141 (ji17))) false _ A20.out).mono ?_); rintro e w' ⟨rfl, ⟨nd, rfl⟩⟩; refine ⟨_, rfl, ?_⟩) | ((with_reducible refine gate_builtin (b := .append) (xs := #[.tmp 39, .tmp 40]) rfl ?_); at_builtin; refine Kd.R_append (Kd.int .u8) (w0 := w) w.heap.size rfl (.tmp 39) (.tmp 40) 25 5 (.int .u8 0) 1 rfl Tryd.underlying25 info5 rfl (by decide) (by omega) u4 x4_1 32 [.int .u8 32] (fun _ => True) (fun _ => False) rfl rfl ?aP (fun _ hk => hk.elim) ?aF ?aO ?aB ?aS ?aL ?_; (case aP => exact rfl); (case aB => exact (by repeat (first | (with_reducible first | exact HB.out | apply below_alloc | apply pw_below_drewN | apply below_drew1) | exact HB.out))); (case aF => exact (fun _ _ => trivial)); (case aO => exact (by (with_reducible repeat (first | apply Kd.R_alloc | apply Kd.R_drewN | apply Kd.R_drew)); exact HO_4.out)); (case aS => exact (below_size (by repeat (first | (with_reducible first | exact HB.out | apply below_alloc | apply pw_below_drewN | apply below_drew1) | exact HB.out)))); (case aL => have := LMc22.out; omega); intro v152 w23 ho hb hg hat; rw [← Ny151.out] at ho; have n0_ := Aside0.mk (Kd.V_afterv (ok := (fun _ => True)) (by (with_reducible repeat (first | apply Kd.V_alloc | apply Kd.V_drewN | apply Kd.V_drew)); exact Kd.V_mono HO_3.out (fun _ hk => ⟨trivial, hk⟩)) hg hat); have n1_ := Aside0.mk (Kd.V_afterv (ok := (fun _ => True)) (by (with_reducible repeat (first | apply Kd.V_alloc | apply Kd.V_drewN | apply Kd.V_drew)); exact Kd.V_mono HO_13.out (fun _ hk => ⟨trivial, hk⟩)) hg hat); have n2_ := Aside0.mk (hb); have n3_ := Aside0.mk (ho); clear HO_3; clear HO_13; clear HB; clear HO_4; have HO_3 := n0_; have HO_13 := n1_; have HB := n2_; have HO153 := n3_; clear n0_ n1_ n2_ n3_; clear ho hb hg hat))
                            go_roundg k1
                            case measure => have := HK1.out; omega
                            case rel => exact ⟨(y151), (wrap64 (x15_1 + 1)), (by first | rfl | (simp; done) | (simp [*]; done) | (simp [bne, beq_nil_E]; done)), H', ⟨by have := HK1.out; omega⟩, ⟨by (with_reducible repeat (first | apply Kd.V_alloc | apply Kd.V_drewN | apply Kd.V_drew)); exact Kd.V_mono HO_3.out (fun _ hk => hk.2)⟩, ⟨by (with_reducible repeat (first | apply Kd.R_alloc | apply Kd.R_drewN | apply Kd.R_drew)); exact HO153.out⟩, ⟨by (with_reducible repeat (first | apply Kd.V_alloc | apply Kd.V_drewN | apply Kd.V_drew)); exact Kd.V_mono HO_13.out (fun _ hk => hk.2)⟩, ⟨by repeat (first | (with_reducible first | exact HB.out | apply below_alloc | apply pw_below_drewN | apply below_drew1) | exact HB.out)⟩⟩
                          · rw [if_neg c22] at H
                            exact absurd H (by simp)
                      · rw [if_neg c19] at H
                        exact absurd H (by simp)
                    · rw [if_neg c18] at H
                      exact absurd H (by simp)
                  · replace c16 := Bool.eq_false_iff.mpr c16
                    subst c16
                    have H1 : ((utf_lower.f (rd y141 x15_1)).bind fun t154 => (if x4_1.length < 140737488355328 then (utf_Fold.l0 k1 y141 (x4_1 ++ [t154]) y141 (y141.length : Int) (wrap64 (x15_1 + 1))) else (none))) = some r := by rw [if_neg (show ¬ (false = true) by decide)] at H; exact H
                    clear H
                    have H := H1
                    clear H1
                    replace H := Option.bind_eq_some_iff.mp H
                    obtain ⟨t154, A240, H⟩ := H
                    replace H : (if x4_1.length < 140737488355328 then (utf_Fold.l0 k1 y141 (x4_1 ++ [t154]) y141 (y141.length : Int) (wrap64 (x15_1 + 1))) else (none)) = some r := H
                    have A24 := Aside0.mk A240
                    clear A240
                    by_cases c25 : x4_1.length < 140737488355328
                    · rw [if_pos c25] at H
                      have LMc25 := Aside0.mk c25
                      clear c25
                      obtain ⟨y155, hy155⟩ : ∃ y_ : List Int, y_ = (x4_1 ++ [t154]) := ⟨_, rfl⟩
                      replace H : (utf_Fold.l0 k1 y141 y155 y141 (y141.length : Int) (wrap64 (x15_1 + 1))) = some r := by first | (rw [hy155]; with_reducible exact H) | (have H2_ := (Option.bind_some _ _).symm.trans H; rw [hy155]; with_reducible exact H2_) | (have H2_ := (Option.bind_some _ _).symm.trans H; with_reducible exact H2_) | with_reducible exact H | (rw [hy155]; exact H) | exact H
                      have Ny155 := Aside0.mk hy155
                      clear hy155
                      have H' := Aside0.mk H
                      clear H
                      have p147 : 0 ≤ (x15_1 : Int) := of_decide_eq_true (by first | (with_reducible assumption) | assumption)
                      have q147 : x15_1 < (y141.length : Int) := of_decide_eq_true (by first | (with_reducible assumption) | assumption)
                      obtain ⟨ad147, e147, hx147_0⟩ := Kd.at_int (Kd.V_reads' HO_13.out).2.2 x15_1 p147 q147
                      cases e147
                      replace p147 := eq_true p147
                      replace q147 := eq_true q147
                      go_wp2_with (first | ((with_reducible refine gate_callee (f := 25) rfl ?_); refine goesL_ (some 23) rfl rfl Tryd.func25 (by kernel_rfl) rfl #[.int .i32 (wrap32 (rd y141 x15_1))] rfl (by (try simp only [List.map_toArray, List.map_cons, List.map_nil]); first | done | rfl | (simp only [List.length_drop, List.length_take]; rfl)) ?_; (with_reducible refine (utf_gap.calls k1 (wrap32 (rd y141 x15_1)) false _ A15.out).mono ?_); rintro e w' ⟨rfl, ⟨nd, rfl⟩⟩; refine ⟨_, rfl, ?_⟩) | ((with_reducible refine gate_callee (f := 26) rfl ?_); refine goesL_ (some 27) rfl rfl Tryd.func26 (by kernel_rfl) rfl #[.int .u8 (rd y141 x15_1)] rfl (by (try simp only [List.map_toArray, List.map_cons, List.map_nil]); first | done | rfl | (simp only [List.length_drop, List.length_take]; rfl)) ?_; (with_reducible refine (utf_lower.calls (rd y141 x15_1) t154 _ A24.out).mono ?_); rintro e w' ⟨rfl, ⟨nd, rfl⟩⟩; refine ⟨_, rfl, ?_⟩) | ((with_reducible refine gate_builtin (b := .append) (xs := #[.tmp 25, .tmp 28]) rfl ?_); at_builtin; refine Kd.R_append (Kd.int .u8) (w0 := w) w.heap.size rfl (.tmp 25) (.tmp 28) 25 5 (.int .u8 0) 1 rfl Tryd.underlying25 info5 rfl (by decide) (by omega) u4 x4_1 t154 [.int .u8 t154] (fun _ => True) (fun _ => False) rfl rfl ?aP (fun _ hk => hk.elim) ?aF ?aO ?aB ?aS ?aL ?_; (case aP => exact rfl); (case aB => exact (by repeat (first | (with_reducible first | exact HB.out | apply below_alloc | apply pw_below_drewN | apply below_drew1) | exact HB.out))); (case aF => exact (fun _ _ => trivial)); (case aO => exact (by (with_reducible repeat (first | apply Kd.R_alloc | apply Kd.R_drewN | apply Kd.R_drew)); exact HO_4.out)); (case aS => exact (below_size (by repeat (first | (with_reducible first | exact HB.out | apply below_alloc | apply pw_below_drewN | apply below_drew1) | exact HB.out)))); (case aL => have := LMc25.out; omega); intro v156 w26 ho hb hg hat; rw [← Ny155.out] at ho; have n0_ := Aside0.mk (Kd.V_afterv (ok := (fun _ => True)) (by (with_reducible repeat (first | apply Kd.V_alloc | apply Kd.V_drewN | apply Kd.V_drew)); exact Kd.V_mono HO_3.out (fun _ hk => ⟨trivial, hk⟩)) hg hat); have n1_ := Aside0.mk (Kd.V_afterv (ok := (fun _ => True)) (by (with_reducible repeat (first | apply Kd.V_alloc | apply Kd.V_drewN | apply Kd.V_drew)); exact Kd.V_mono HO_13.out (fun _ hk => ⟨trivial, hk⟩)) hg hat); have n2_ := Aside0.mk (hb); have n3_ := Aside0.mk (ho); clear HO_3; clear HO_13; clear HB; clear HO_4; have HO_3 := n0_; have HO_13 := n1_; have HB := n2_; have HO157 := n3_; clear n0_ n1_ n2_ n3_; clear ho hb hg hat))
                      go_roundg k1
                      case measure => have := HK1.out; omega
                      case rel => exact ⟨(y155), (wrap64 (x15_1 + 1)), (by first | rfl | (simp; done) | (simp [*]; done) | (simp [bne, beq_nil_E]; done)), H', ⟨by have := HK1.out; omega⟩, ⟨by (with_reducible repeat (first | apply Kd.V_alloc | apply Kd.V_drewN | apply Kd.V_drew)); exact Kd.V_mono HO_3.out (fun _ hk => hk.2)⟩, ⟨by (with_reducible repeat (first | apply Kd.R_alloc | apply Kd.R_drewN | apply Kd.R_drew)); exact HO157.out⟩, ⟨by (with_reducible repeat (first | apply Kd.V_alloc | apply Kd.V_drewN | apply Kd.V_drew)); exact Kd.V_mono HO_13.out (fun _ hk => hk.2)⟩, ⟨by repeat (first | (with_reducible first | exact HB.out | apply below_alloc | apply pw_below_drewN | apply below_drew1) | exact HB.out)⟩⟩
                    · rw [if_neg c25] at H
                      exact absurd H (by simp)
                · rw [if_neg c14] at H
                  exact absurd H (by simp)
              · rw [if_neg c13] at H
                exact absurd H (by simp)
            · rw [if_neg c12] at H
              have c12b0 : decide (x15_1 < (y141.length : Int)) = false := decide_eq_false c12
              clear c12
              obtain rfl := Option.some.inj H
              have hcv27 := own_string (P := Tryd.prog) Tryd.underlying25 Tryd.underlying5 Tryd.underlying9 (Kd.own_of_R HO_4.out)
              go_wp2
              go_ret
              exact ⟨by first | rfl | (simp [errW_none, errW_some] <;> rfl) | (simp [*, errW_none, errW_some] <;> rfl), by repeat (first | (with_reducible first | exact HB.out | apply below_alloc | apply pw_below_drewN | apply below_drew1) | exact HB.out)⟩
      · rw [if_neg c5] at H
        exact absurd H (by simp)
    · rw [if_neg c4] at H
      exact absurd H (by simp)
  · rw [if_neg c3] at H
    exact absurd H (by simp)

/-! ### emendationlaw01_UtfFolds: function 8 -/
def emendationlaw01_UtfFolds.j0 : Nat → ByteArray → ByteArray → Bool → Option (Bool)
  | 0, _, _, _ => none
  | k + 1, x0, x1, x17 => if x17 = true then ((emendationlaw01_awake.f).bind fun t159 => (some t159)) else ((utf_Fold.f k x0).bind fun t160 => ((utf_Fold.f k x1).bind fun t161 => (if x0.size + 2 ≤ 9223372036854775807 then (if (x0 ++ (⟨#[32, 10]⟩ : ByteArray)).size + x1.size ≤ 9223372036854775807 then ((utf_Fold.f k ((x0 ++ (⟨#[32, 10]⟩ : ByteArray)) ++ x1)).bind fun t162 => (if t160.toList = ([] : List UInt8) then (if t160.size + t161.size ≤ 9223372036854775807 then (some (t162.toList == (t160 ++ t161).toList)) else (none)) else (if t161.toList = ([] : List UInt8) then (if t160.size + t161.size ≤ 9223372036854775807 then (some (t162.toList == (t160 ++ t161).toList)) else (none)) else (if t160.size + 1 ≤ 9223372036854775807 then (if (t160 ++ (⟨#[32]⟩ : ByteArray)).size + t161.size ≤ 9223372036854775807 then (if t162.toList = ((t160 ++ (⟨#[32]⟩ : ByteArray)) ++ t161).toList then (if x1.size + 1 ≤ 9223372036854775807 then (if (x1 ++ (⟨#[9]⟩ : ByteArray)).size + x0.size ≤ 9223372036854775807 then ((utf_Fold.f k ((x1 ++ (⟨#[9]⟩ : ByteArray)) ++ x0)).bind fun t163 => (if t161.size + 1 ≤ 9223372036854775807 then (if (t161 ++ (⟨#[32]⟩ : ByteArray)).size + t160.size ≤ 9223372036854775807 then (some (t163.toList == ((t161 ++ (⟨#[32]⟩ : ByteArray)) ++ t160).toList)) else (none)) else (none))) else (none)) else (none)) else (some false)) else (none)) else (none))))) else (none)) else (none))))
def emendationlaw01_UtfFolds.f (k : Nat) (a0 : ByteArray) (a1 : ByteArray) : Option (Bool) := (emendationlaw01_awake.f).bind fun t158 => (if t158 = true then (emendationlaw01_UtfFolds.j0 k a0 a1 (decide ((wrap64 ((a0.size : Int) + (a1.size : Int))) > 2000))) else (emendationlaw01_UtfFolds.j0 k a0 a1 true))
theorem emendationlaw01_UtfFolds.mono_l : ∀ k, (∀ y0 y1 y2, LeO (emendationlaw01_UtfFolds.j0 k y0 y1 y2) (emendationlaw01_UtfFolds.j0 (k + 1) y0 y1 y2))
  | 0 => fun _ _ _ r h => by simp [emendationlaw01_UtfFolds.j0] at h
  | k + 1 => by
    have ih0 := emendationlaw01_UtfFolds.mono_l k
    · intro y0 y1 y2
      unfold emendationlaw01_UtfFolds.j0
      repeat' first
      | (with_reducible exact ih0 _ _ _)
      | (with_reducible exact utf_Fold.mono _ _)
      | (with_reducible exact LeO.refl _)
      | (with_reducible exact LeO.none _)
      | (with_reducible refine LeO.ite ?_ ?_)
      | (with_reducible refine LeO.bind ?_ (fun _ => ?_))
      | exact ih0 _ _ _
      | exact utf_Fold.mono _ _
      | exact LeO.none _
      | refine LeO.ite ?_ ?_
      | refine LeO.bind ?_ (fun _ => ?_)
theorem emendationlaw01_UtfFolds.mono : ∀ a0 a1 k, LeO (emendationlaw01_UtfFolds.f k a0 a1) (emendationlaw01_UtfFolds.f (k + 1) a0 a1) := by
  intro a0 a1 k
  have ih0 := emendationlaw01_UtfFolds.mono_l k
  unfold emendationlaw01_UtfFolds.f
  repeat' first
      | (with_reducible exact ih0 _ _ _)
      | (with_reducible exact utf_Fold.mono _ _)
      | (with_reducible exact LeO.refl _)
      | (with_reducible exact LeO.none _)
      | (with_reducible refine LeO.ite ?_ ?_)
      | (with_reducible refine LeO.bind ?_ (fun _ => ?_))
      | exact ih0 _ _ _
      | exact utf_Fold.mono _ _
      | exact LeO.none _
      | refine LeO.ite ?_ ?_
      | refine LeO.bind ?_ (fun _ => ?_)
set_option maxHeartbeats 8000000 in
set_option maxRecDepth 100000 in
theorem emendationlaw01_UtfFolds.calls (k : Nat) (a0 : ByteArray) (a1 : ByteArray) (r : Bool) (w : World) (hT : Tabs w) (h : emendationlaw01_UtfFolds.f k a0 a1 = some r) :
    Calls Tryd.prog 8 #[.string a0, .string a1] w fun e w' => e = .returned (.bool r) ∧ Below w.heap.size w w' := by
  have HT := Aside0.mk hT
  clear hT
  have HB := Aside0.mk (Below.refl w.heap.size w)
  have H : ((emendationlaw01_awake.f).bind fun t158 => (if t158 = true then (emendationlaw01_UtfFolds.j0 k a0 a1 (decide ((wrap64 ((a0.size : Int) + (a1.size : Int))) > 2000))) else (emendationlaw01_UtfFolds.j0 k a0 a1 true))) = some r := h
  clear h
  have HC3 := Aside0.mk H
  clear H
  go_enter Tryd.func8, Tryd.ntmps8
  go_upto_region 1 with (fail)
  go_cut [17] (fun v17 wc => ∃ (kq : Nat) (x17_2 : Bool), v17 = .bool x17_2 ∧ Aside0 (emendationlaw01_UtfFolds.j0 kq a0 a1 x17_2 = some r) ∧ Aside0 (kq ≤ k) ∧ Aside0 (Below w.heap.size w wc))
  case first =>
    have H := HC3.out
    clear HC3
    replace H := Option.bind_eq_some_iff.mp H
    obtain ⟨t158, A40, H⟩ := H
    replace H : (if t158 = true then (emendationlaw01_UtfFolds.j0 k a0 a1 (decide ((wrap64 ((a0.size : Int) + (a1.size : Int))) > 2000))) else (emendationlaw01_UtfFolds.j0 k a0 a1 true)) = some r := H
    have A4 := Aside0.mk A40
    clear A40
    by_cases c5 : t158 = true
    · subst c5
      have H1 : (emendationlaw01_UtfFolds.j0 k a0 a1 (decide ((wrap64 ((a0.size : Int) + (a1.size : Int))) > 2000))) = some r := by rw [if_pos rfl] at H; exact H
      clear H
      have H := H1
      clear H1
      have H' := Aside0.mk H
      clear H
      go_wp2_with (first | ((with_reducible refine gate_callee (f := 10) rfl ?_); refine goesL_ (some 8) rfl rfl Tryd.func10 (by kernel_rfl) rfl #[] rfl (by (try simp only [List.map_toArray, List.map_cons, List.map_nil]); first | done | rfl | (simp only [List.length_drop, List.length_take]; rfl)) ?_; (with_reducible refine (emendationlaw01_awake.calls  true _ ?side1 A4.out).mono ?_); (case side1 => first | exact HT.out | exact Tabs.at HT.out (by repeat (first | (with_reducible first | exact HB.out | apply below_alloc | apply pw_below_drewN | apply below_drew1) | exact HB.out))); rintro e w6 ⟨rfl, hb⟩; refine ⟨_, rfl, ?_⟩; have n0_ := Aside0.mk (below_step (by repeat (first | (with_reducible first | exact HB.out | apply below_alloc | apply pw_below_drewN | apply below_drew1) | exact HB.out)) hb); clear HB; have HB := n0_; clear n0_; (try clear hb); (try clear hb2); (try clear hk); (try clear hi)))
      go_meet
      case rel => exact ⟨_, (decide ((wrap64 ((a0.size : Int) + (a1.size : Int))) > 2000)), (by first | rfl | (simp; done) | (simp [*]; done) | (simp [bne, beq_nil_E]; done)), H', ⟨by first | omega | exact Nat.le_refl _⟩, ⟨by repeat (first | (with_reducible first | exact HB.out | apply below_alloc | apply pw_below_drewN | apply below_drew1) | exact HB.out)⟩⟩
    · replace c5 := Bool.eq_false_iff.mpr c5
      subst c5
      have H1 : (emendationlaw01_UtfFolds.j0 k a0 a1 true) = some r := by rw [if_neg (show ¬ (false = true) by decide)] at H; exact H
      clear H
      have H := H1
      clear H1
      have H' := Aside0.mk H
      clear H
      go_wp2_with (first | ((with_reducible refine gate_callee (f := 10) rfl ?_); refine goesL_ (some 8) rfl rfl Tryd.func10 (by kernel_rfl) rfl #[] rfl (by (try simp only [List.map_toArray, List.map_cons, List.map_nil]); first | done | rfl | (simp only [List.length_drop, List.length_take]; rfl)) ?_; (with_reducible refine (emendationlaw01_awake.calls  false _ ?side1 A4.out).mono ?_); (case side1 => first | exact HT.out | exact Tabs.at HT.out (by repeat (first | (with_reducible first | exact HB.out | apply below_alloc | apply pw_below_drewN | apply below_drew1) | exact HB.out))); rintro e w7 ⟨rfl, hb⟩; refine ⟨_, rfl, ?_⟩; have n0_ := Aside0.mk (below_step (by repeat (first | (with_reducible first | exact HB.out | apply below_alloc | apply pw_below_drewN | apply below_drew1) | exact HB.out)) hb); clear HB; have HB := n0_; clear n0_; (try clear hb); (try clear hb2); (try clear hk); (try clear hi)))
      go_meet
      case rel => exact ⟨_, (true), (by first | rfl | (simp; done) | (simp [*]; done) | (simp [bne, beq_nil_E]; done)), H', ⟨by first | omega | exact Nat.le_refl _⟩, ⟨by repeat (first | (with_reducible first | exact HB.out | apply below_alloc | apply pw_below_drewN | apply below_drew1) | exact HB.out)⟩⟩
  case rest =>
    clear HC3
    try clear c1
    try clear p2
    try clear c5
    try clear p6
    obtain ⟨kq, x17_2, rfl, HA, HJ2, HB⟩ := hcut
    cases kq with
    | zero => exact absurd HA.out (by simp [emendationlaw01_UtfFolds.j0])
    | succ kj2 =>
      have H := HA.out
      clear HA
      simp only [emendationlaw01_UtfFolds.j0] at H
      by_cases c8 : x17_2 = true
      · subst c8
        have H1 : ((emendationlaw01_awake.f).bind fun t159 => (some t159)) = some r := by rw [if_pos rfl] at H; exact H
        clear H
        have H := H1
        clear H1
        replace H := Option.bind_eq_some_iff.mp H
        obtain ⟨t159, A90, H⟩ := H
        replace H : (some t159) = some r := H
        have A9 := Aside0.mk A90
        clear A90
        obtain rfl := Option.some.inj H
        go_wp2_with (first | ((with_reducible refine gate_callee (f := 10) rfl ?_); refine goesL_ (some 18) rfl rfl Tryd.func10 (by kernel_rfl) rfl #[] rfl (by (try simp only [List.map_toArray, List.map_cons, List.map_nil]); first | done | rfl | (simp only [List.length_drop, List.length_take]; rfl)) ?_; (with_reducible refine (emendationlaw01_awake.calls  t159 _ ?side1 A9.out).mono ?_); (case side1 => first | exact HT.out | exact Tabs.at HT.out (by repeat (first | (with_reducible first | exact HB.out | apply below_alloc | apply pw_below_drewN | apply below_drew1) | exact HB.out))); rintro e w10 ⟨rfl, hb⟩; refine ⟨_, rfl, ?_⟩; have n0_ := Aside0.mk (below_step (by repeat (first | (with_reducible first | exact HB.out | apply below_alloc | apply pw_below_drewN | apply below_drew1) | exact HB.out)) hb); clear HB; have HB := n0_; clear n0_; (try clear hb); (try clear hb2); (try clear hk); (try clear hi)))
        go_ret
        exact ⟨by first | rfl | (simp [errW_none, errW_some] <;> rfl) | (simp [*, errW_none, errW_some] <;> rfl), by repeat (first | (with_reducible first | exact HB.out | apply below_alloc | apply pw_below_drewN | apply below_drew1) | exact HB.out)⟩
      · replace c8 := Bool.eq_false_iff.mpr c8
        subst c8
        have H1 : ((utf_Fold.f kj2 a0).bind fun t160 => ((utf_Fold.f kj2 a1).bind fun t161 => (if a0.size + 2 ≤ 9223372036854775807 then (if (a0 ++ (⟨#[32, 10]⟩ : ByteArray)).size + a1.size ≤ 9223372036854775807 then ((utf_Fold.f kj2 ((a0 ++ (⟨#[32, 10]⟩ : ByteArray)) ++ a1)).bind fun t162 => (if t160.toList = ([] : List UInt8) then (if t160.size + t161.size ≤ 9223372036854775807 then (some (t162.toList == (t160 ++ t161).toList)) else (none)) else (if t161.toList = ([] : List UInt8) then (if t160.size + t161.size ≤ 9223372036854775807 then (some (t162.toList == (t160 ++ t161).toList)) else (none)) else (if t160.size + 1 ≤ 9223372036854775807 then (if (t160 ++ (⟨#[32]⟩ : ByteArray)).size + t161.size ≤ 9223372036854775807 then (if t162.toList = ((t160 ++ (⟨#[32]⟩ : ByteArray)) ++ t161).toList then (if a1.size + 1 ≤ 9223372036854775807 then (if (a1 ++ (⟨#[9]⟩ : ByteArray)).size + a0.size ≤ 9223372036854775807 then ((utf_Fold.f kj2 ((a1 ++ (⟨#[9]⟩ : ByteArray)) ++ a0)).bind fun t163 => (if t161.size + 1 ≤ 9223372036854775807 then (if (t161 ++ (⟨#[32]⟩ : ByteArray)).size + t160.size ≤ 9223372036854775807 then (some (t163.toList == ((t161 ++ (⟨#[32]⟩ : ByteArray)) ++ t160).toList)) else (none)) else (none))) else (none)) else (none)) else (some false)) else (none)) else (none))))) else (none)) else (none)))) = some r := by rw [if_neg (show ¬ (false = true) by decide)] at H; exact H
        clear H
        have H := H1
        clear H1
        replace H := Option.bind_eq_some_iff.mp H
        obtain ⟨t160, A110, H⟩ := H
        replace H : ((utf_Fold.f kj2 a1).bind fun t161 => (if a0.size + 2 ≤ 9223372036854775807 then (if (a0 ++ (⟨#[32, 10]⟩ : ByteArray)).size + a1.size ≤ 9223372036854775807 then ((utf_Fold.f kj2 ((a0 ++ (⟨#[32, 10]⟩ : ByteArray)) ++ a1)).bind fun t162 => (if t160.toList = ([] : List UInt8) then (if t160.size + t161.size ≤ 9223372036854775807 then (some (t162.toList == (t160 ++ t161).toList)) else (none)) else (if t161.toList = ([] : List UInt8) then (if t160.size + t161.size ≤ 9223372036854775807 then (some (t162.toList == (t160 ++ t161).toList)) else (none)) else (if t160.size + 1 ≤ 9223372036854775807 then (if (t160 ++ (⟨#[32]⟩ : ByteArray)).size + t161.size ≤ 9223372036854775807 then (if t162.toList = ((t160 ++ (⟨#[32]⟩ : ByteArray)) ++ t161).toList then (if a1.size + 1 ≤ 9223372036854775807 then (if (a1 ++ (⟨#[9]⟩ : ByteArray)).size + a0.size ≤ 9223372036854775807 then ((utf_Fold.f kj2 ((a1 ++ (⟨#[9]⟩ : ByteArray)) ++ a0)).bind fun t163 => (if t161.size + 1 ≤ 9223372036854775807 then (if (t161 ++ (⟨#[32]⟩ : ByteArray)).size + t160.size ≤ 9223372036854775807 then (some (t163.toList == ((t161 ++ (⟨#[32]⟩ : ByteArray)) ++ t160).toList)) else (none)) else (none))) else (none)) else (none)) else (some false)) else (none)) else (none))))) else (none)) else (none))) = some r := H
        have A11 := Aside0.mk A110
        clear A110
        replace H := Option.bind_eq_some_iff.mp H
        obtain ⟨t161, A120, H⟩ := H
        replace H : (if a0.size + 2 ≤ 9223372036854775807 then (if (a0 ++ (⟨#[32, 10]⟩ : ByteArray)).size + a1.size ≤ 9223372036854775807 then ((utf_Fold.f kj2 ((a0 ++ (⟨#[32, 10]⟩ : ByteArray)) ++ a1)).bind fun t162 => (if t160.toList = ([] : List UInt8) then (if t160.size + t161.size ≤ 9223372036854775807 then (some (t162.toList == (t160 ++ t161).toList)) else (none)) else (if t161.toList = ([] : List UInt8) then (if t160.size + t161.size ≤ 9223372036854775807 then (some (t162.toList == (t160 ++ t161).toList)) else (none)) else (if t160.size + 1 ≤ 9223372036854775807 then (if (t160 ++ (⟨#[32]⟩ : ByteArray)).size + t161.size ≤ 9223372036854775807 then (if t162.toList = ((t160 ++ (⟨#[32]⟩ : ByteArray)) ++ t161).toList then (if a1.size + 1 ≤ 9223372036854775807 then (if (a1 ++ (⟨#[9]⟩ : ByteArray)).size + a0.size ≤ 9223372036854775807 then ((utf_Fold.f kj2 ((a1 ++ (⟨#[9]⟩ : ByteArray)) ++ a0)).bind fun t163 => (if t161.size + 1 ≤ 9223372036854775807 then (if (t161 ++ (⟨#[32]⟩ : ByteArray)).size + t160.size ≤ 9223372036854775807 then (some (t163.toList == ((t161 ++ (⟨#[32]⟩ : ByteArray)) ++ t160).toList)) else (none)) else (none))) else (none)) else (none)) else (some false)) else (none)) else (none))))) else (none)) else (none)) = some r := H
        have A12 := Aside0.mk A120
        clear A120
        by_cases c13 : a0.size + 2 ≤ 9223372036854775807
        · rw [if_pos c13] at H
          have c13b0 := eq_true c13
          have c13b1 : decide (a0.size + 2 ≤ 9223372036854775807) = true := decide_eq_true c13
          try have c13b2 : (9223372036854775807 < a0.size + 2) = False := eq_false (Nat.not_lt.2 c13)
          by_cases c14 : (a0 ++ (⟨#[32, 10]⟩ : ByteArray)).size + a1.size ≤ 9223372036854775807
          · rw [if_pos c14] at H
            have c14b0 := eq_true c14
            have c14b1 : decide ((a0 ++ (⟨#[32, 10]⟩ : ByteArray)).size + a1.size ≤ 9223372036854775807) = true := decide_eq_true c14
            try have c14b2 : (9223372036854775807 < (a0 ++ (⟨#[32, 10]⟩ : ByteArray)).size + a1.size) = False := eq_false (Nat.not_lt.2 c14)
            (try (have c14s := c14; simp only [ByteArray.size_append] at c14s; have c14s0 := eq_true c14s; have c14s1 := decide_eq_true c14s; have c14s2 := eq_false (Nat.not_lt.2 c14s); clear c14s))
            replace H := Option.bind_eq_some_iff.mp H
            obtain ⟨t162, A150, H⟩ := H
            replace H : (if t160.toList = ([] : List UInt8) then (if t160.size + t161.size ≤ 9223372036854775807 then (some (t162.toList == (t160 ++ t161).toList)) else (none)) else (if t161.toList = ([] : List UInt8) then (if t160.size + t161.size ≤ 9223372036854775807 then (some (t162.toList == (t160 ++ t161).toList)) else (none)) else (if t160.size + 1 ≤ 9223372036854775807 then (if (t160 ++ (⟨#[32]⟩ : ByteArray)).size + t161.size ≤ 9223372036854775807 then (if t162.toList = ((t160 ++ (⟨#[32]⟩ : ByteArray)) ++ t161).toList then (if a1.size + 1 ≤ 9223372036854775807 then (if (a1 ++ (⟨#[9]⟩ : ByteArray)).size + a0.size ≤ 9223372036854775807 then ((utf_Fold.f kj2 ((a1 ++ (⟨#[9]⟩ : ByteArray)) ++ a0)).bind fun t163 => (if t161.size + 1 ≤ 9223372036854775807 then (if (t161 ++ (⟨#[32]⟩ : ByteArray)).size + t160.size ≤ 9223372036854775807 then (some (t163.toList == ((t161 ++ (⟨#[32]⟩ : ByteArray)) ++ t160).toList)) else (none)) else (none))) else (none)) else (none)) else (some false)) else (none)) else (none)))) = some r := H
            have A15 := Aside0.mk A150
            clear A150
            by_cases c16 : t160.toList = ([] : List UInt8)
            · rw [if_pos c16] at H
              have c16b0 : (t160.toList == ([] : List UInt8)) = true := beq_iff_eq.mpr c16
              have c16b1 : (t160.toList != ([] : List UInt8)) = false := bne_eq_false_iff_eq.mpr c16
              (try (have c16b0e := c16b0; simp only [beq_nil_E] at c16b0e))
              clear c16
              by_cases c17 : t160.size + t161.size ≤ 9223372036854775807
              · rw [if_pos c17] at H
                have c17b0 := eq_true c17
                have c17b1 : decide (t160.size + t161.size ≤ 9223372036854775807) = true := decide_eq_true c17
                try have c17b2 : (9223372036854775807 < t160.size + t161.size) = False := eq_false (Nat.not_lt.2 c17)
                obtain rfl := Option.some.inj H
                go_wp2_with (first | ((with_reducible refine gate_callee (f := 15) rfl ?_); refine goesL_ (some 20) rfl rfl Tryd.func15 (by kernel_rfl) rfl #[.string a0] rfl (by (try simp only [List.map_toArray, List.map_cons, List.map_nil]); first | done | rfl | (simp only [List.length_drop, List.length_take]; rfl)) ?_; (with_reducible refine (utf_Fold.calls kj2 a0 t160 _ A11.out).mono ?_); rintro e w18 ⟨rfl, hb⟩; refine ⟨_, rfl, ?_⟩; have n0_ := Aside0.mk (below_step (by repeat (first | (with_reducible first | exact HB.out | apply below_alloc | apply pw_below_drewN | apply below_drew1) | exact HB.out)) hb); clear HB; have HB := n0_; clear n0_; (try clear hb); (try clear hb2); (try clear hk); (try clear hi)) | ((with_reducible refine gate_callee (f := 15) rfl ?_); refine goesL_ (some 22) rfl rfl Tryd.func15 (by kernel_rfl) rfl #[.string a1] rfl (by (try simp only [List.map_toArray, List.map_cons, List.map_nil]); first | done | rfl | (simp only [List.length_drop, List.length_take]; rfl)) ?_; (with_reducible refine (utf_Fold.calls kj2 a1 t161 _ A12.out).mono ?_); rintro e w19 ⟨rfl, hb⟩; refine ⟨_, rfl, ?_⟩; have n0_ := Aside0.mk (below_step (by repeat (first | (with_reducible first | exact HB.out | apply below_alloc | apply pw_below_drewN | apply below_drew1) | exact HB.out)) hb); clear HB; have HB := n0_; clear n0_; (try clear hb); (try clear hb2); (try clear hk); (try clear hi)) | ((with_reducible refine gate_callee (f := 15) rfl ?_); refine goesL_ (some 27) rfl rfl Tryd.func15 (by kernel_rfl) rfl #[.string ((a0 ++ (⟨#[32, 10]⟩ : ByteArray)) ++ a1)] rfl (by (try simp only [List.map_toArray, List.map_cons, List.map_nil]); first | done | rfl | (simp only [List.length_drop, List.length_take]; rfl)) ?_; (with_reducible refine (utf_Fold.calls kj2 ((a0 ++ (⟨#[32, 10]⟩ : ByteArray)) ++ a1) t162 _ A15.out).mono ?_); rintro e w20 ⟨rfl, hb⟩; refine ⟨_, rfl, ?_⟩; have n0_ := Aside0.mk (below_step (by repeat (first | (with_reducible first | exact HB.out | apply below_alloc | apply pw_below_drewN | apply below_drew1) | exact HB.out)) hb); clear HB; have HB := n0_; clear n0_; (try clear hb); (try clear hb2); (try clear hk); (try clear hi)))
                go_ret
                exact ⟨by first | rfl | (simp [errW_none, errW_some] <;> rfl) | (simp [*, errW_none, errW_some] <;> rfl), by repeat (first | (with_reducible first | exact HB.out | apply below_alloc | apply pw_below_drewN | apply below_drew1) | exact HB.out)⟩
              · rw [if_neg c17] at H
                exact absurd H (by simp)
            · rw [if_neg c16] at H
              have c16b0 : (t160.toList == ([] : List UInt8)) = false := beq_eq_false_iff_ne.mpr c16
              have c16b1 : (t160.toList != ([] : List UInt8)) = true := bne_iff_ne.mpr c16
              (try (have c16b0e := c16b0; simp only [beq_nil_E] at c16b0e))
              by_cases c21 : t161.toList = ([] : List UInt8)
              · rw [if_pos c21] at H
                have c21b0 : (t161.toList == ([] : List UInt8)) = true := beq_iff_eq.mpr c21
                have c21b1 : (t161.toList != ([] : List UInt8)) = false := bne_eq_false_iff_eq.mpr c21
                (try (have c21b0e := c21b0; simp only [beq_nil_E] at c21b0e))
                clear c21
                by_cases c22 : t160.size + t161.size ≤ 9223372036854775807
                · rw [if_pos c22] at H
                  have c22b0 := eq_true c22
                  have c22b1 : decide (t160.size + t161.size ≤ 9223372036854775807) = true := decide_eq_true c22
                  try have c22b2 : (9223372036854775807 < t160.size + t161.size) = False := eq_false (Nat.not_lt.2 c22)
                  obtain rfl := Option.some.inj H
                  go_wp2_with (first | ((with_reducible refine gate_callee (f := 15) rfl ?_); refine goesL_ (some 20) rfl rfl Tryd.func15 (by kernel_rfl) rfl #[.string a0] rfl (by (try simp only [List.map_toArray, List.map_cons, List.map_nil]); first | done | rfl | (simp only [List.length_drop, List.length_take]; rfl)) ?_; (with_reducible refine (utf_Fold.calls kj2 a0 t160 _ A11.out).mono ?_); rintro e w23 ⟨rfl, hb⟩; refine ⟨_, rfl, ?_⟩; have n0_ := Aside0.mk (below_step (by repeat (first | (with_reducible first | exact HB.out | apply below_alloc | apply pw_below_drewN | apply below_drew1) | exact HB.out)) hb); clear HB; have HB := n0_; clear n0_; (try clear hb); (try clear hb2); (try clear hk); (try clear hi)) | ((with_reducible refine gate_callee (f := 15) rfl ?_); refine goesL_ (some 22) rfl rfl Tryd.func15 (by kernel_rfl) rfl #[.string a1] rfl (by (try simp only [List.map_toArray, List.map_cons, List.map_nil]); first | done | rfl | (simp only [List.length_drop, List.length_take]; rfl)) ?_; (with_reducible refine (utf_Fold.calls kj2 a1 t161 _ A12.out).mono ?_); rintro e w24 ⟨rfl, hb⟩; refine ⟨_, rfl, ?_⟩; have n0_ := Aside0.mk (below_step (by repeat (first | (with_reducible first | exact HB.out | apply below_alloc | apply pw_below_drewN | apply below_drew1) | exact HB.out)) hb); clear HB; have HB := n0_; clear n0_; (try clear hb); (try clear hb2); (try clear hk); (try clear hi)) | ((with_reducible refine gate_callee (f := 15) rfl ?_); refine goesL_ (some 27) rfl rfl Tryd.func15 (by kernel_rfl) rfl #[.string ((a0 ++ (⟨#[32, 10]⟩ : ByteArray)) ++ a1)] rfl (by (try simp only [List.map_toArray, List.map_cons, List.map_nil]); first | done | rfl | (simp only [List.length_drop, List.length_take]; rfl)) ?_; (with_reducible refine (utf_Fold.calls kj2 ((a0 ++ (⟨#[32, 10]⟩ : ByteArray)) ++ a1) t162 _ A15.out).mono ?_); rintro e w25 ⟨rfl, hb⟩; refine ⟨_, rfl, ?_⟩; have n0_ := Aside0.mk (below_step (by repeat (first | (with_reducible first | exact HB.out | apply below_alloc | apply pw_below_drewN | apply below_drew1) | exact HB.out)) hb); clear HB; have HB := n0_; clear n0_; (try clear hb); (try clear hb2); (try clear hk); (try clear hi)))
                  go_ret
                  exact ⟨by first | rfl | (simp [errW_none, errW_some] <;> rfl) | (simp [*, errW_none, errW_some] <;> rfl), by repeat (first | (with_reducible first | exact HB.out | apply below_alloc | apply pw_below_drewN | apply below_drew1) | exact HB.out)⟩
                · rw [if_neg c22] at H
                  exact absurd H (by simp)
              · rw [if_neg c21] at H
                have c21b0 : (t161.toList == ([] : List UInt8)) = false := beq_eq_false_iff_ne.mpr c21
                have c21b1 : (t161.toList != ([] : List UInt8)) = true := bne_iff_ne.mpr c21
                (try (have c21b0e := c21b0; simp only [beq_nil_E] at c21b0e))
                by_cases c26 : t160.size + 1 ≤ 9223372036854775807
                · rw [if_pos c26] at H
                  have c26b0 := eq_true c26
                  have c26b1 : decide (t160.size + 1 ≤ 9223372036854775807) = true := decide_eq_true c26
                  try have c26b2 : (9223372036854775807 < t160.size + 1) = False := eq_false (Nat.not_lt.2 c26)
                  by_cases c27 : (t160 ++ (⟨#[32]⟩ : ByteArray)).size + t161.size ≤ 9223372036854775807
                  · rw [if_pos c27] at H
                    have c27b0 := eq_true c27
                    have c27b1 : decide ((t160 ++ (⟨#[32]⟩ : ByteArray)).size + t161.size ≤ 9223372036854775807) = true := decide_eq_true c27
                    try have c27b2 : (9223372036854775807 < (t160 ++ (⟨#[32]⟩ : ByteArray)).size + t161.size) = False := eq_false (Nat.not_lt.2 c27)
                    (try (have c27s := c27; simp only [ByteArray.size_append] at c27s; have c27s0 := eq_true c27s; have c27s1 := decide_eq_true c27s; have c27s2 := eq_false (Nat.not_lt.2 c27s); clear c27s))
                    by_cases c28 : t162.toList = ((t160 ++ (⟨#[32]⟩ : ByteArray)) ++ t161).toList
                    · rw [if_pos c28] at H
                      have c28b0 : (t162.toList == ((t160 ++ (⟨#[32]⟩ : ByteArray)) ++ t161).toList) = true := beq_iff_eq.mpr c28
                      have c28b1 : (t162.toList != ((t160 ++ (⟨#[32]⟩ : ByteArray)) ++ t161).toList) = false := bne_eq_false_iff_eq.mpr c28
                      clear c28
                      by_cases c29 : a1.size + 1 ≤ 9223372036854775807
                      · rw [if_pos c29] at H
                        have c29b0 := eq_true c29
                        have c29b1 : decide (a1.size + 1 ≤ 9223372036854775807) = true := decide_eq_true c29
                        try have c29b2 : (9223372036854775807 < a1.size + 1) = False := eq_false (Nat.not_lt.2 c29)
                        by_cases c30 : (a1 ++ (⟨#[9]⟩ : ByteArray)).size + a0.size ≤ 9223372036854775807
                        · rw [if_pos c30] at H
                          have c30b0 := eq_true c30
                          have c30b1 : decide ((a1 ++ (⟨#[9]⟩ : ByteArray)).size + a0.size ≤ 9223372036854775807) = true := decide_eq_true c30
                          try have c30b2 : (9223372036854775807 < (a1 ++ (⟨#[9]⟩ : ByteArray)).size + a0.size) = False := eq_false (Nat.not_lt.2 c30)
                          (try (have c30s := c30; simp only [ByteArray.size_append] at c30s; have c30s0 := eq_true c30s; have c30s1 := decide_eq_true c30s; have c30s2 := eq_false (Nat.not_lt.2 c30s); clear c30s))
                          replace H := Option.bind_eq_some_iff.mp H
                          obtain ⟨t163, A310, H⟩ := H
                          replace H : (if t161.size + 1 ≤ 9223372036854775807 then (if (t161 ++ (⟨#[32]⟩ : ByteArray)).size + t160.size ≤ 9223372036854775807 then (some (t163.toList == ((t161 ++ (⟨#[32]⟩ : ByteArray)) ++ t160).toList)) else (none)) else (none)) = some r := H
                          have A31 := Aside0.mk A310
                          clear A310
                          by_cases c32 : t161.size + 1 ≤ 9223372036854775807
                          · rw [if_pos c32] at H
                            have c32b0 := eq_true c32
                            have c32b1 : decide (t161.size + 1 ≤ 9223372036854775807) = true := decide_eq_true c32
                            try have c32b2 : (9223372036854775807 < t161.size + 1) = False := eq_false (Nat.not_lt.2 c32)
                            by_cases c33 : (t161 ++ (⟨#[32]⟩ : ByteArray)).size + t160.size ≤ 9223372036854775807
                            · rw [if_pos c33] at H
                              have c33b0 := eq_true c33
                              have c33b1 : decide ((t161 ++ (⟨#[32]⟩ : ByteArray)).size + t160.size ≤ 9223372036854775807) = true := decide_eq_true c33
                              try have c33b2 : (9223372036854775807 < (t161 ++ (⟨#[32]⟩ : ByteArray)).size + t160.size) = False := eq_false (Nat.not_lt.2 c33)
                              (try (have c33s := c33; simp only [ByteArray.size_append] at c33s; have c33s0 := eq_true c33s; have c33s1 := decide_eq_true c33s; have c33s2 := eq_false (Nat.not_lt.2 c33s); clear c33s))
                              obtain rfl := Option.some.inj H
                              go_wp2_with (first | ((with_reducible refine gate_callee (f := 15) rfl ?_); refine goesL_ (some 20) rfl rfl Tryd.func15 (by kernel_rfl) rfl #[.string a0] rfl (by (try simp only [List.map_toArray, List.map_cons, List.map_nil]); first | done | rfl | (simp only [List.length_drop, List.length_take]; rfl)) ?_; (with_reducible refine (utf_Fold.calls kj2 a0 t160 _ A11.out).mono ?_); rintro e w34 ⟨rfl, hb⟩; refine ⟨_, rfl, ?_⟩; have n0_ := Aside0.mk (below_step (by repeat (first | (with_reducible first | exact HB.out | apply below_alloc | apply pw_below_drewN | apply below_drew1) | exact HB.out)) hb); clear HB; have HB := n0_; clear n0_; (try clear hb); (try clear hb2); (try clear hk); (try clear hi)) | ((with_reducible refine gate_callee (f := 15) rfl ?_); refine goesL_ (some 22) rfl rfl Tryd.func15 (by kernel_rfl) rfl #[.string a1] rfl (by (try simp only [List.map_toArray, List.map_cons, List.map_nil]); first | done | rfl | (simp only [List.length_drop, List.length_take]; rfl)) ?_; (with_reducible refine (utf_Fold.calls kj2 a1 t161 _ A12.out).mono ?_); rintro e w35 ⟨rfl, hb⟩; refine ⟨_, rfl, ?_⟩; have n0_ := Aside0.mk (below_step (by repeat (first | (with_reducible first | exact HB.out | apply below_alloc | apply pw_below_drewN | apply below_drew1) | exact HB.out)) hb); clear HB; have HB := n0_; clear n0_; (try clear hb); (try clear hb2); (try clear hk); (try clear hi)) | ((with_reducible refine gate_callee (f := 15) rfl ?_); refine goesL_ (some 27) rfl rfl Tryd.func15 (by kernel_rfl) rfl #[.string ((a0 ++ (⟨#[32, 10]⟩ : ByteArray)) ++ a1)] rfl (by (try simp only [List.map_toArray, List.map_cons, List.map_nil]); first | done | rfl | (simp only [List.length_drop, List.length_take]; rfl)) ?_; (with_reducible refine (utf_Fold.calls kj2 ((a0 ++ (⟨#[32, 10]⟩ : ByteArray)) ++ a1) t162 _ A15.out).mono ?_); rintro e w36 ⟨rfl, hb⟩; refine ⟨_, rfl, ?_⟩; have n0_ := Aside0.mk (below_step (by repeat (first | (with_reducible first | exact HB.out | apply below_alloc | apply pw_below_drewN | apply below_drew1) | exact HB.out)) hb); clear HB; have HB := n0_; clear n0_; (try clear hb); (try clear hb2); (try clear hk); (try clear hi); have tkA31 : True := trivial) | (go_at_call 15; clear tkA31; (with_reducible refine (utf_Fold.calls kj2 ((a1 ++ (⟨#[9]⟩ : ByteArray)) ++ a0) t163 _ A31.out).mono ?_); rintro e w37 ⟨rfl, hb⟩; have n0_ := Aside0.mk (below_step (by repeat (first | (with_reducible first | exact HB.out | apply below_alloc | apply pw_below_drewN | apply below_drew1) | exact HB.out)) hb); clear HB; have HB := n0_; clear n0_; (try clear hb); (try clear hb2); (try clear hk); (try clear hi)))
                              go_ret
                              exact ⟨by first | rfl | (simp [errW_none, errW_some] <;> rfl) | (simp [*, errW_none, errW_some] <;> rfl), by repeat (first | (with_reducible first | exact HB.out | apply below_alloc | apply pw_below_drewN | apply below_drew1) | exact HB.out)⟩
                            · rw [if_neg c33] at H
                              exact absurd H (by simp)
                          · rw [if_neg c32] at H
                            exact absurd H (by simp)
                        · rw [if_neg c30] at H
                          exact absurd H (by simp)
                      · rw [if_neg c29] at H
                        exact absurd H (by simp)
                    · rw [if_neg c28] at H
                      have c28b0 : (t162.toList == ((t160 ++ (⟨#[32]⟩ : ByteArray)) ++ t161).toList) = false := beq_eq_false_iff_ne.mpr c28
                      have c28b1 : (t162.toList != ((t160 ++ (⟨#[32]⟩ : ByteArray)) ++ t161).toList) = true := bne_iff_ne.mpr c28
                      obtain rfl := Option.some.inj H
                      go_wp2_with (first | ((with_reducible refine gate_callee (f := 15) rfl ?_); refine goesL_ (some 20) rfl rfl Tryd.func15 (by kernel_rfl) rfl #[.string a0] rfl (by (try simp only [List.map_toArray, List.map_cons, List.map_nil]); first | done | rfl | (simp only [List.length_drop, List.length_take]; rfl)) ?_; (with_reducible refine (utf_Fold.calls kj2 a0 t160 _ A11.out).mono ?_); rintro e w38 ⟨rfl, hb⟩; refine ⟨_, rfl, ?_⟩; have n0_ := Aside0.mk (below_step (by repeat (first | (with_reducible first | exact HB.out | apply below_alloc | apply pw_below_drewN | apply below_drew1) | exact HB.out)) hb); clear HB; have HB := n0_; clear n0_; (try clear hb); (try clear hb2); (try clear hk); (try clear hi)) | ((with_reducible refine gate_callee (f := 15) rfl ?_); refine goesL_ (some 22) rfl rfl Tryd.func15 (by kernel_rfl) rfl #[.string a1] rfl (by (try simp only [List.map_toArray, List.map_cons, List.map_nil]); first | done | rfl | (simp only [List.length_drop, List.length_take]; rfl)) ?_; (with_reducible refine (utf_Fold.calls kj2 a1 t161 _ A12.out).mono ?_); rintro e w39 ⟨rfl, hb⟩; refine ⟨_, rfl, ?_⟩; have n0_ := Aside0.mk (below_step (by repeat (first | (with_reducible first | exact HB.out | apply below_alloc | apply pw_below_drewN | apply below_drew1) | exact HB.out)) hb); clear HB; have HB := n0_; clear n0_; (try clear hb); (try clear hb2); (try clear hk); (try clear hi)) | ((with_reducible refine gate_callee (f := 15) rfl ?_); refine goesL_ (some 27) rfl rfl Tryd.func15 (by kernel_rfl) rfl #[.string ((a0 ++ (⟨#[32, 10]⟩ : ByteArray)) ++ a1)] rfl (by (try simp only [List.map_toArray, List.map_cons, List.map_nil]); first | done | rfl | (simp only [List.length_drop, List.length_take]; rfl)) ?_; (with_reducible refine (utf_Fold.calls kj2 ((a0 ++ (⟨#[32, 10]⟩ : ByteArray)) ++ a1) t162 _ A15.out).mono ?_); rintro e w40 ⟨rfl, hb⟩; refine ⟨_, rfl, ?_⟩; have n0_ := Aside0.mk (below_step (by repeat (first | (with_reducible first | exact HB.out | apply below_alloc | apply pw_below_drewN | apply below_drew1) | exact HB.out)) hb); clear HB; have HB := n0_; clear n0_; (try clear hb); (try clear hb2); (try clear hk); (try clear hi)))
                      go_ret
                      exact ⟨by first | rfl | (simp [errW_none, errW_some] <;> rfl) | (simp [*, errW_none, errW_some] <;> rfl), by repeat (first | (with_reducible first | exact HB.out | apply below_alloc | apply pw_below_drewN | apply below_drew1) | exact HB.out)⟩
                  · rw [if_neg c27] at H
                    exact absurd H (by simp)
                · rw [if_neg c26] at H
                  exact absurd H (by simp)
          · rw [if_neg c14] at H
            exact absurd H (by simp)
        · rw [if_neg c13] at H
          exact absurd H (by simp)

end Go.Proofs.YtmamjecpjookoaaDoor.X
