/- The reference's Same for blocks that are alike: the printed walk's one way (wip/shrink.py), what is unlike isn't covered. -/
import Derived.Test.YticaofendehebaaDoorX0
import Derived.Test.YticaofendehebaaDoorGivenCf
import Derived.Test.YticaofendehebaaDoorGivenRefSame
import Derived.Test.YticaofendehebaaDoorX14
namespace Go.Proofs.YticaofendehebaaDoor.X
open Go.RowKit Go.Proofs.YticaofendehebaaDoor.G Go.Proofs.YticaofendehebaaDoorW.PrintWords Go.Proofs.YticaofendehebaaDoorW.PrintLast Go.Proofs.YticaofendehebaaDoorW.PrintMore
attribute [local go_sem] max2_int min2_int max_two min_two max_three min_three max_four min_four   -- for this text's walks alone
set_option linter.unusedVariables false
set_option linter.unusedSimpArgs false

/-! ### emendationref10_Same: function 25 -/
mutual
def emendationref10_Same.l0 : Nat → List (S32) → List (S32) → Int → Int → Option (Bool)
 | 0, _, _, _, _ => none
 | k + 1, x0, x1, x14, x15 => if x15 < x14 then (if 0 ≤ x15 then (if x15 < (x0.length : Int) then (if x15 < (x1.length : Int) then (if ((rd_T32 x0 x15).f0) = ((rd_T32 x1 x15).f0) then (if ((rd_T32 x0 x15).f1) = ((rd_T32 x1 x15).f1) then (if ((rd_T32 x0 x15).f2).toList = ((rd_T32 x1 x15).f2).toList then ((emendationref10_texts.f k ((rd_T32 x0 x15).f3) ((rd_T32 x1 x15).f3)).bind fun t107 => (if t107 = true then ((emendationref07_Same.f ((rd_T32 x0 x15).f4) ((rd_T32 x1 x15).f4)).bind fun t108 => (if t108 = true then ((emendationref10_Same.f k ((rd_T32 x0 x15).f5) ((rd_T32 x1 x15).f5)).bind fun t109 => (if t109 = true then (emendationref10_Same.l0 k x0 x1 x14 (wrap64 (x15 + 1))) else (none))) else (none))) else (none))) else (none)) else (none)) else (none)) else (none)) else (none)) else (none)) else (some true)
def emendationref10_Same.f : Nat → List (S32) → List (S32) → Option (Bool)
 | 0, _, _ => none
 | k + 1, l0, l1 => if (l0.length : Int) = (l1.length : Int) then (emendationref10_Same.l0 k l0 l1 (l0.length : Int) 0) else (some false)
end
def emendationref10_Same.T6 : Bool × List (List Nat × List Nat) := (true, [([], []), ([], []), ([0, 1], [0, 1]), ([2], [2]), ([], []), ([], []), ([4, 5], [4, 5]), ([6], [6]), ([], []), ([], []), ([8, 3, 0, 1, 2, 3, 8, 9], [3, 8]), ([9, 7, 10, 0, 1, 2, 3, 4, 5, 6, 7, 8, 9, 10], [7, 9])])
def emendationref10_Same.B6 : List Nat := [0, 0, 3, 7, 0, 0, 48, 112, 0, 0, 783, 2047]
theorem emendationref10_Same.tab6 : rtab .any (opsOf Tryd.f25 6) = emendationref10_Same.T6 := by kernel_rfl
theorem emendationref10_Same.bits6 : waitsOk emendationref10_Same.T6.2 emendationref10_Same.B6 = true := by kernel_rfl
set_option maxHeartbeats 8000000 in
set_option maxRecDepth 100000 in
theorem emendationref10_Same.calls (k : Nat) : ∀ (A0 : Option Addr) (c0 : Nat) (l0 : List (S32)) (A1 : Option Addr) (c1 : Nat) (l1 : List (S32)) (r : Bool) (w : World) (hr0 : Kd.C k32 w A0 l0.length l0) (hc0 : l0.length ≤ c0) (hr1 : Kd.C k32 w A1 l1.length l1) (hc1 : l1.length ≤ c1) (h : emendationref10_Same.f k l0 l1 = some r),
  Calls Tryd.prog 25 #[.slice A0 l0.length c0, .slice A1 l1.length c1] w fun e w' => e = .returned (.bool r) ∧ Below w.heap.size w w' := by
 induction k using Nat.strongRecOn with
 | _ k ih =>
 intro A0 c0 l0 A1 c1 l1 r w hr0 hc0 hr1 hc1 h
 cases k with
 | zero => exact absurd h (by simp [emendationref10_Same.f])
 | succ k =>
 simp only [emendationref10_Same.f] at h
 have hu32 := Tryd.underlying32
 have HR0 := Aside0.mk hr0
 have HC0 := Aside0.mk hc0
 clear hr0 hc0
 have HR1 := Aside0.mk hr1
 have HC1 := Aside0.mk hc1
 clear hr1 hc1
 have HB := Aside0.mk (Below.refl w.heap.size w)
 have H : (if (l0.length : Int) = (l1.length : Int) then (emendationref10_Same.l0 k l0 l1 (l0.length : Int) 0) else (some false)) = some r := h
 clear h
 by_cases c3 : (l0.length : Int) = (l1.length : Int)
 ·
  rw [if_pos c3] at H
  have c3b0 : ((l0.length : Int) == (l1.length : Int)) = true := beq_iff_eq.mpr c3
  have c3b1 : ((l0.length : Int) != (l1.length : Int)) = false := bne_eq_false_iff_eq.mpr c3
  have c3b2 : (l0.length == l1.length) = true := by first | simpa using c3 | (simp at c3 ⊢; omega)
  clear c3
  have H' := Aside0.mk H
  clear H
  go_enter Tryd.func25, Tryd.ntmps25
  go_wp2
  go_loopg [15] k (fun kq v15 w' => ∃ (x15_1 : Int), v15 = .int .i64 x15_1 ∧ Aside0 (emendationref10_Same.l0 kq l0 l1 (l0.length : Int) x15_1 = some r) ∧ Aside0 (kq ≤ k) ∧ Aside0 (Below w.heap.size w w'))
  case atStart => exact ⟨(0), (by first | rfl | (simp; done) | (simp [*]; done) | (simp [bne, beq_nil_E]; done)), H', ⟨Nat.le_refl _⟩, ⟨by repeat (with_reducible first | exact HB.out | apply below_alloc | apply pw_below_drewN | apply below_drew1)⟩⟩
  case round =>
   clear H'
   try clear c1
   try clear c2
   try clear p2
   try clear c3
   try clear c3b0
   try clear c3b1
   try clear c3b2
   obtain ⟨x15_1, rfl, HA, HK1, HB⟩ := hrel
   cases gk with
   | zero => exact absurd HA.out (by simp [emendationref10_Same.l0])
   | succ k1 =>
    have H := HA.out
    clear HA
    simp only [emendationref10_Same.l0] at H
    by_cases c4 : x15_1 < (l0.length : Int)
    ·
     rw [if_pos c4] at H
     have c4b0 : decide (x15_1 < (l0.length : Int)) = true := decide_eq_true c4
     clear c4
     by_cases c5 : 0 ≤ x15_1
     ·
      rw [if_pos c5] at H
      have c5b0 : decide (0 ≤ x15_1) = true := decide_eq_true c5
      clear c5
      by_cases c6 : x15_1 < (l0.length : Int)
      ·
       rw [if_pos c6] at H
       have c6b0 : decide (x15_1 < (l0.length : Int)) = true := decide_eq_true c6
       clear c6
       by_cases c7 : x15_1 < (l1.length : Int)
       ·
        rw [if_pos c7] at H
        have c7b0 : decide (x15_1 < (l1.length : Int)) = true := decide_eq_true c7
        clear c7
        by_cases c8 : ((rd_T32 l0 x15_1).f0) = ((rd_T32 l1 x15_1).f0)
        ·
         rw [if_pos c8] at H
         have c8b0 : (((rd_T32 l0 x15_1).f0) == ((rd_T32 l1 x15_1).f0)) = true := beq_iff_eq.mpr c8
         have c8b1 : (((rd_T32 l0 x15_1).f0) != ((rd_T32 l1 x15_1).f0)) = false := bne_eq_false_iff_eq.mpr c8
         clear c8
         by_cases c9 : ((rd_T32 l0 x15_1).f1) = ((rd_T32 l1 x15_1).f1)
         ·
          rw [if_pos c9] at H
          have c9b0 : (((rd_T32 l0 x15_1).f1) == ((rd_T32 l1 x15_1).f1)) = true := beq_iff_eq.mpr c9
          have c9b1 : (((rd_T32 l0 x15_1).f1) != ((rd_T32 l1 x15_1).f1)) = false := bne_eq_false_iff_eq.mpr c9
          clear c9
          by_cases c10 : ((rd_T32 l0 x15_1).f2).toList = ((rd_T32 l1 x15_1).f2).toList
          ·
           rw [if_pos c10] at H
           have c10b0 : (((rd_T32 l0 x15_1).f2).toList == ((rd_T32 l1 x15_1).f2).toList) = true := beq_iff_eq.mpr c10
           have c10b1 : (((rd_T32 l0 x15_1).f2).toList != ((rd_T32 l1 x15_1).f2).toList) = false := bne_eq_false_iff_eq.mpr c10
           clear c10
           replace H := Option.bind_eq_some_iff.mp H
           obtain ⟨t107, A110, H⟩ := H
           replace H : (if t107 = true then ((emendationref07_Same.f ((rd_T32 l0 x15_1).f4) ((rd_T32 l1 x15_1).f4)).bind fun t108 => (if t108 = true then ((emendationref10_Same.f k1 ((rd_T32 l0 x15_1).f5) ((rd_T32 l1 x15_1).f5)).bind fun t109 => (if t109 = true then (emendationref10_Same.l0 k1 l0 l1 (l0.length : Int) (wrap64 (x15_1 + 1))) else (none))) else (none))) else (none)) = some r := H
           have A11 := Aside0.mk A110
           clear A110
           by_cases c12 : t107 = true
           ·
            subst c12
            have H1 : ((emendationref07_Same.f ((rd_T32 l0 x15_1).f4) ((rd_T32 l1 x15_1).f4)).bind fun t108 => (if t108 = true then ((emendationref10_Same.f k1 ((rd_T32 l0 x15_1).f5) ((rd_T32 l1 x15_1).f5)).bind fun t109 => (if t109 = true then (emendationref10_Same.l0 k1 l0 l1 (l0.length : Int) (wrap64 (x15_1 + 1))) else (none))) else (none))) = some r := by rw [if_pos rfl] at H; exact H
            clear H
            have H := H1
            clear H1
            replace H := Option.bind_eq_some_iff.mp H
            obtain ⟨t108, A130, H⟩ := H
            replace H : (if t108 = true then ((emendationref10_Same.f k1 ((rd_T32 l0 x15_1).f5) ((rd_T32 l1 x15_1).f5)).bind fun t109 => (if t109 = true then (emendationref10_Same.l0 k1 l0 l1 (l0.length : Int) (wrap64 (x15_1 + 1))) else (none))) else (none)) = some r := H
            have A13 := Aside0.mk A130
            clear A130
            by_cases c14 : t108 = true
            ·
             subst c14
             have H1 : ((emendationref10_Same.f k1 ((rd_T32 l0 x15_1).f5) ((rd_T32 l1 x15_1).f5)).bind fun t109 => (if t109 = true then (emendationref10_Same.l0 k1 l0 l1 (l0.length : Int) (wrap64 (x15_1 + 1))) else (none))) = some r := by rw [if_pos rfl] at H; exact H
             clear H
             have H := H1
             clear H1
             replace H := Option.bind_eq_some_iff.mp H
             obtain ⟨t109, A150, H⟩ := H
             replace H : (if t109 = true then (emendationref10_Same.l0 k1 l0 l1 (l0.length : Int) (wrap64 (x15_1 + 1))) else (none)) = some r := H
             have A15 := Aside0.mk A150
             clear A150
             by_cases c16 : t109 = true
             ·
              subst c16
              have H1 : (emendationref10_Same.l0 k1 l0 l1 (l0.length : Int) (wrap64 (x15_1 + 1))) = some r := by rw [if_pos rfl] at H; exact H
              clear H
              have H := H1
              clear H1
              have H' := Aside0.mk H
              clear H
              try go_wp2
              have n0_ := Aside0.mk (below_drew1 HB.out)
              clear HB
              have HB := n0_
              clear n0_
              have p103 : 0 ≤ (x15_1 : Int) := of_decide_eq_true (by first | (with_reducible assumption) | assumption)
              have q103 : x15_1 < (l0.length : Int) := of_decide_eq_true (by first | (with_reducible assumption) | assumption)
              obtain ⟨ad103, A103_3, c103_3, A103_4, c103_4, A103_5, c103_5, e103, hx103_0, hx103_1, hx103_2, hx103_3, hx103_4, hx103_5, hl103_3, hi103_3, hl103_4, hi103_4, hl103_5, hi103_5⟩ := at_T32 HR0.out x15_1 p103 q103
              have hw103_5 := hx103_5
              have hw103_4 := hx103_4
              have hw103_3 := hx103_3
              have hw103_2 := hx103_2
              have hw103_1 := hx103_1
              have hw103_0 := hx103_0
              cases e103
              replace hx103_0 := kc_ HB hx103_0
              replace hx103_1 := kc_ HB hx103_1
              replace hx103_2 := kc_ HB hx103_2
              replace hx103_3 := kc_ HB hx103_3
              replace hx103_4 := kc_ HB hx103_4
              replace hx103_5 := kc_ HB hx103_5
              have HR103_3 := Aside0.mk hi103_3
              have HC103_3 := Aside0.mk hl103_3
              clear hi103_3 hl103_3
              have HR103_4 := Aside0.mk hi103_4
              have HC103_4 := Aside0.mk hl103_4
              clear hi103_4 hl103_4
              have HR103_5 := Aside0.mk hi103_5
              have HC103_5 := Aside0.mk hl103_5
              clear hi103_5 hl103_5
              replace p103 := eq_true p103
              replace q103 := eq_true q103
              have p104 : 0 ≤ (x15_1 : Int) := of_decide_eq_true (by first | (with_reducible assumption) | assumption)
              have q104 : x15_1 < (l1.length : Int) := of_decide_eq_true (by first | (with_reducible assumption) | assumption)
              obtain ⟨ad104, A104_3, c104_3, A104_4, c104_4, A104_5, c104_5, e104, hx104_0, hx104_1, hx104_2, hx104_3, hx104_4, hx104_5, hl104_3, hi104_3, hl104_4, hi104_4, hl104_5, hi104_5⟩ := at_T32 HR1.out x15_1 p104 q104
              have hw104_5 := hx104_5
              have hw104_4 := hx104_4
              have hw104_3 := hx104_3
              have hw104_2 := hx104_2
              have hw104_1 := hx104_1
              have hw104_0 := hx104_0
              cases e104
              replace hx104_0 := kc_ HB hx104_0
              replace hx104_1 := kc_ HB hx104_1
              replace hx104_2 := kc_ HB hx104_2
              replace hx104_3 := kc_ HB hx104_3
              replace hx104_4 := kc_ HB hx104_4
              replace hx104_5 := kc_ HB hx104_5
              have HR104_3 := Aside0.mk hi104_3
              have HC104_3 := Aside0.mk hl104_3
              clear hi104_3 hl104_3
              have HR104_4 := Aside0.mk hi104_4
              have HC104_4 := Aside0.mk hl104_4
              clear hi104_4 hl104_4
              have HR104_5 := Aside0.mk hi104_5
              have HC104_5 := Aside0.mk hl104_5
              clear hi104_5 hl104_5
              replace p104 := eq_true p104
              replace q104 := eq_true q104
              refine start_ (n := 12) (S := fun w' => w'.cell? (ad103.add ((x15_1).toNat * 6)) = some (.int .i64 ((rd_T32 l0 x15_1).f0)) ∧ w'.cell? ⟨(ad103.add ((x15_1).toNat * 6)).block, (ad103.add ((x15_1).toNat * 6)).off + 1, none⟩ = some (.int .i64 ((rd_T32 l0 x15_1).f1)) ∧ w'.cell? ⟨(ad103.add ((x15_1).toNat * 6)).block, (ad103.add ((x15_1).toNat * 6)).off + 2, none⟩ = some (.string ((rd_T32 l0 x15_1).f2)) ∧ w'.cell? ⟨(ad103.add ((x15_1).toNat * 6)).block, (ad103.add ((x15_1).toNat * 6)).off + 3, none⟩ = some (.slice A103_3 ((rd_T32 l0 x15_1).f3).length c103_3) ∧ w'.cell? ⟨(ad103.add ((x15_1).toNat * 6)).block, (ad103.add ((x15_1).toNat * 6)).off + 4, none⟩ = some (.slice A103_4 ((rd_T32 l0 x15_1).f4).length c103_4) ∧ w'.cell? ⟨(ad103.add ((x15_1).toNat * 6)).block, (ad103.add ((x15_1).toNat * 6)).off + 5, none⟩ = some (.slice A103_5 ((rd_T32 l0 x15_1).f5).length c103_5) ∧ w'.cell? (ad104.add ((x15_1).toNat * 6)) = some (.int .i64 ((rd_T32 l1 x15_1).f0)) ∧ w'.cell? ⟨(ad104.add ((x15_1).toNat * 6)).block, (ad104.add ((x15_1).toNat * 6)).off + 1, none⟩ = some (.int .i64 ((rd_T32 l1 x15_1).f1)) ∧ w'.cell? ⟨(ad104.add ((x15_1).toNat * 6)).block, (ad104.add ((x15_1).toNat * 6)).off + 2, none⟩ = some (.string ((rd_T32 l1 x15_1).f2)) ∧ w'.cell? ⟨(ad104.add ((x15_1).toNat * 6)).block, (ad104.add ((x15_1).toNat * 6)).off + 3, none⟩ = some (.slice A104_3 ((rd_T32 l1 x15_1).f3).length c104_3) ∧ w'.cell? ⟨(ad104.add ((x15_1).toNat * 6)).block, (ad104.add ((x15_1).toNat * 6)).off + 4, none⟩ = some (.slice A104_4 ((rd_T32 l1 x15_1).f4).length c104_4) ∧ w'.cell? ⟨(ad104.add ((x15_1).toNat * 6)).block, (ad104.add ((x15_1).toNat * 6)).off + 5, none⟩ = some (.slice A104_5 ((rd_T32 l1 x15_1).f5).length c104_5)) (ds := []) #[false, false, false, false, false, false, false, false, false, false, false, false] (by kernel_rfl) rfl rfl ⟨(kc_ HB hw103_0), (kc_ HB hw103_1), (kc_ HB hw103_2), (kc_ HB hw103_3), (kc_ HB hw103_4), (kc_ HB hw103_5), (kc_ HB hw104_0), (kc_ HB hw104_1), (kc_ HB hw104_2), (kc_ HB hw104_3), (kc_ HB hw104_4), (kc_ HB hw104_5)⟩ (fun hHeld => ?_); refine with_tabW emendationref10_Same.tab6 emendationref10_Same.bits6 (fun HT_ HW_ => ?_)
              generalize wr.drew = w17 at HB HR103_3 HR103_4 HR103_5 HR104_3 HR104_4 HR104_5 hx103_0 hx103_1 hx103_2 hx103_3 hx103_4 hx103_5 hx104_0 hx104_1 hx104_2 hx104_3 hx104_4 hx104_5 hHeld ⊢
              refine pure_ (i := 0) (N := some 18) (v := ?_) (a' := ?_) #[true, false, false, false, false, false, false, false, false, false, false, false] rfl rfl (any_of HT_.out (by kernel_rfl)) (fun _ _ _ h => h) (Or.inl ⟨by rfl, ?_⟩) ?_ ?_
              rotate_left
              ·
               intro w'
               go_simp
               with_reducible rfl
              rotate_left
              ·
               simp only [Act.put, List.setIfInBounds_toArray, List.set_cons_zero, List.set_cons_succ, i64_w, i32_w]
               rfl
              refine pure_ (i := 1) (N := some 19) (v := ?_) (a' := ?_) #[true, true, false, false, false, false, false, false, false, false, false, false] rfl rfl (any_of HT_.out (by kernel_rfl)) (fun _ _ _ h => h) (Or.inl ⟨by rfl, ?_⟩) ?_ ?_
              rotate_left
              ·
               intro w'
               go_simp
               with_reducible rfl
              rotate_left
              ·
               simp only [Act.put, List.setIfInBounds_toArray, List.set_cons_zero, List.set_cons_succ, i64_w, i32_w]
               rfl
              refine pure_ (i := 2) (N := some 20) (v := ?_) (a' := ?_) #[true, true, true, false, false, false, false, false, false, false, false, false] rfl rfl (any_of HT_.out (by kernel_rfl)) (fun _ _ _ h => h) (Or.inl ⟨by rfl, ?_⟩) ?_ ?_
              rotate_left
              ·
               intro w'
               go_simp
               with_reducible rfl
              rotate_left
              ·
               simp only [Act.put, List.setIfInBounds_toArray, List.set_cons_zero, List.set_cons_succ, i64_w, i32_w]
               rfl
              refine pure_ (i := 4) (N := some 22) (v := ?_) (a' := ?_) #[true, true, true, false, true, false, false, false, false, false, false, false] rfl rfl (any_of HT_.out (by kernel_rfl)) (fun _ _ _ h => h) (Or.inl ⟨by rfl, ?_⟩) ?_ ?_
              rotate_left
              ·
               intro w'
               go_simp
               with_reducible rfl
              rotate_left
              ·
               simp only [Act.put, List.setIfInBounds_toArray, List.set_cons_zero, List.set_cons_succ, i64_w, i32_w]
               rfl
              refine pure_ (i := 5) (N := some 23) (v := ?_) (a' := ?_) #[true, true, true, false, true, true, false, false, false, false, false, false] rfl rfl (any_of HT_.out (by kernel_rfl)) (fun _ _ _ h => h) (Or.inl ⟨by rfl, ?_⟩) ?_ ?_
              rotate_left
              ·
               intro w'
               go_simp
               with_reducible rfl
              rotate_left
              ·
               simp only [Act.put, List.setIfInBounds_toArray, List.set_cons_zero, List.set_cons_succ, i64_w, i32_w]
               rfl
              refine pure_ (i := 6) (N := some 24) (v := ?_) (a' := ?_) #[true, true, true, false, true, true, true, false, false, false, false, false] rfl rfl (any_of HT_.out (by kernel_rfl)) (fun _ _ _ h => h) (Or.inl ⟨by rfl, ?_⟩) ?_ ?_
              rotate_left
              ·
               intro w'
               go_simp
               with_reducible rfl
              rotate_left
              ·
               simp only [Act.put, List.setIfInBounds_toArray, List.set_cons_zero, List.set_cons_succ, i64_w, i32_w]
               rfl
              refine take_ (i := 3) (N := some 21) (v := ?_) (a' := ?_) #[true, true, true, true, true, true, true, false, false, false, false, false] rfl rfl (take_ofW HT_.out HW_.out (by kernel_rfl)) (fun _ _ _ h => h) (Or.inl ⟨by rfl, ?_⟩) hHeld ?_ ?_
              rotate_left
              ·
               rintro w' ⟨s0, s1, s2, s3, s4, s5, s6, s7, s8, s9, s10, s11⟩
               go_simp
               with_reducible rfl
              rotate_left
              ·
               simp only [Act.put, List.setIfInBounds_toArray, List.set_cons_zero, List.set_cons_succ, i64_w, i32_w]
               rfl
              refine take_ (i := 7) (N := some 25) (v := ?_) (a' := ?_) #[true, true, true, true, true, true, true, true, false, false, false, false] rfl rfl (take_ofW HT_.out HW_.out (by kernel_rfl)) (fun _ _ _ h => h) (Or.inl ⟨by rfl, ?_⟩) hHeld ?_ ?_
              rotate_left
              ·
               rintro w' ⟨s0, s1, s2, s3, s4, s5, s6, s7, s8, s9, s10, s11⟩
               go_simp
               with_reducible rfl
              rotate_left
              ·
               simp only [Act.put, List.setIfInBounds_toArray, List.set_cons_zero, List.set_cons_succ, i64_w, i32_w]
               rfl
              refine join_ (σ := Nat × Nat) 2 #[true, true, true, true, true, true, true, true, true, true, false, false] (fun s_ => [(6, .pointer (some ⟨s_.1, 0, none⟩)), (7, .pointer (some ⟨s_.2, 0, none⟩))]) (fun s_ w' => (w'.cell? (ad103.add ((x15_1).toNat * 6)) = some (.int .i64 ((rd_T32 l0 x15_1).f0)) ∧ w'.cell? ⟨(ad103.add ((x15_1).toNat * 6)).block, (ad103.add ((x15_1).toNat * 6)).off + 1, none⟩ = some (.int .i64 ((rd_T32 l0 x15_1).f1)) ∧ w'.cell? ⟨(ad103.add ((x15_1).toNat * 6)).block, (ad103.add ((x15_1).toNat * 6)).off + 2, none⟩ = some (.string ((rd_T32 l0 x15_1).f2)) ∧ w'.cell? ⟨(ad103.add ((x15_1).toNat * 6)).block, (ad103.add ((x15_1).toNat * 6)).off + 3, none⟩ = some (.slice A103_3 ((rd_T32 l0 x15_1).f3).length c103_3) ∧ w'.cell? ⟨(ad103.add ((x15_1).toNat * 6)).block, (ad103.add ((x15_1).toNat * 6)).off + 4, none⟩ = some (.slice A103_4 ((rd_T32 l0 x15_1).f4).length c103_4) ∧ w'.cell? ⟨(ad103.add ((x15_1).toNat * 6)).block, (ad103.add ((x15_1).toNat * 6)).off + 5, none⟩ = some (.slice A103_5 ((rd_T32 l0 x15_1).f5).length c103_5) ∧ w'.cell? (ad104.add ((x15_1).toNat * 6)) = some (.int .i64 ((rd_T32 l1 x15_1).f0)) ∧ w'.cell? ⟨(ad104.add ((x15_1).toNat * 6)).block, (ad104.add ((x15_1).toNat * 6)).off + 1, none⟩ = some (.int .i64 ((rd_T32 l1 x15_1).f1)) ∧ w'.cell? ⟨(ad104.add ((x15_1).toNat * 6)).block, (ad104.add ((x15_1).toNat * 6)).off + 2, none⟩ = some (.string ((rd_T32 l1 x15_1).f2)) ∧ w'.cell? ⟨(ad104.add ((x15_1).toNat * 6)).block, (ad104.add ((x15_1).toNat * 6)).off + 3, none⟩ = some (.slice A104_3 ((rd_T32 l1 x15_1).f3).length c104_3) ∧ w'.cell? ⟨(ad104.add ((x15_1).toNat * 6)).block, (ad104.add ((x15_1).toNat * 6)).off + 4, none⟩ = some (.slice A104_4 ((rd_T32 l1 x15_1).f4).length c104_4) ∧ w'.cell? ⟨(ad104.add ((x15_1).toNat * 6)).block, (ad104.add ((x15_1).toNat * 6)).off + 5, none⟩ = some (.slice A104_5 ((rd_T32 l1 x15_1).f5).length c104_5)) ∧ (w'.heap[s_.1]? = some (.cells #[.int .i64 0, .int .i64 0, .string (⟨#[]⟩ : ByteArray), .slice none 0 0, .slice none 0 0, .slice none 0 0] 32 (0, 0))) ∧ (w'.heap[s_.2]? = some (.cells #[.int .i64 0, .int .i64 0, .string (⟨#[]⟩ : ByteArray), .slice none 0 0, .slice none 0 0, .slice none 0 0] 32 (0, 0))) ∧ (w.heap.size ≤ s_.1) ∧ (w.heap.size ≤ s_.1) ∧ (s_.2 ≠ s_.1) ∧ (s_.1 ≠ s_.2) ∧ (w.heap.size ≤ s_.2) ∧ (w.heap.size ≤ s_.2) ∧ (Below w.heap.size w w')) ?_ ?_
              rotate_left
              ·
               intro hCont
               refine two_ (i := 8) (j := 9) (Ni := some 6) (Nj := some 7) #[true, true, true, true, true, true, true, true, true, false, false, false] #[true, true, true, true, true, true, true, true, false, true, false, false] rfl rfl rfl rfl (two_of HT_.out (by kernel_rfl)) (by decide) (by decide) (fun K hK => ?_) (fun K hK => ?_)
               ·
                skip
                refine box_step ?hg (N := 6) ?hd (cs := #[.int .i64 0, .int .i64 0, .string (⟨#[]⟩ : ByteArray), .slice none 0 0, .slice none 0 0, .slice none 0 0]) (t := 32) ?hr ?_; (case hd => rfl); (case hg => rfl); (case hr => first | (go_simp; done) | (go_simp; rfl))
                intro gb105 hg w18 hbox hb
                have n0_ := Aside0.mk (below_step (by repeat (with_reducible first | exact HB.out | apply below_alloc | apply pw_below_drewN | apply below_drew1)) hb)
                have n1_ := Aside0.mk (hbox)
                have n2_ := Aside0.mk ((by rw [hg]; exact (below_size (by repeat (with_reducible first | exact HB.out | apply below_alloc | apply pw_below_drewN | apply below_drew1))) : w.heap.size ≤ gb105))
                have n3_ := Aside0.mk ((by rw [hg]; exact (below_size (by repeat (with_reducible first | exact HB.out | apply below_alloc | apply pw_below_drewN | apply below_drew1))) : w.heap.size ≤ gb105))
                clear HB
                have HB := n0_
                have BK105 := n1_
                have GW105 := n2_
                have GE105 := n3_
                clear n0_ n1_ n2_ n3_
                clear hb hbox hg
                refine hK.out _ _ ⟨(kc_ HB hw103_0), (kc_ HB hw103_1), (kc_ HB hw103_2), (kc_ HB hw103_3), (kc_ HB hw103_4), (kc_ HB hw103_5), (kc_ HB hw104_0), (kc_ HB hw104_1), (kc_ HB hw104_2), (kc_ HB hw104_3), (kc_ HB hw104_4), (kc_ HB hw104_5)⟩ (fun hHeld => ?_)
                clear hK K
                refine norm_ (a' := ?_) ?_ ?_
                rotate_left
                ·
                 show Act.put _ (some 6) _ = _
                 simp only [Act.put, List.setIfInBounds_toArray, List.set_cons_zero, List.set_cons_succ, i64_w, i32_w]
                 rfl
                refine one_ (i := 9) (N := some 7) #[true, true, true, true, true, true, true, true, true, true, false, false] rfl rfl (one_of HT_.out (by kernel_rfl)) (by decide) (fun K hK => ?_)
                refine box_step ?hg (N := 7) ?hd (cs := #[.int .i64 0, .int .i64 0, .string (⟨#[]⟩ : ByteArray), .slice none 0 0, .slice none 0 0, .slice none 0 0]) (t := 32) ?hr ?_; (case hd => rfl); (case hg => rfl); (case hr => first | (go_simp; done) | (go_simp; rfl))
                intro gb106 hg w19 hbox hb
                have n0_ := Aside0.mk (blk_below (g := gb105) (o := .cells #[.int .i64 0, .int .i64 0, .string (⟨#[]⟩ : ByteArray), .slice none 0 0, .slice none 0 0, .slice none 0 0] 32 (0, 0)) (by (with_reducible repeat (first | refine blk_drewN ?_ _ | refine blk_drew ?_ | refine blk_alloc ?_ _)); exact BK105.out) hb)
                have n1_ := Aside0.mk (below_step (by repeat (with_reducible first | exact HB.out | apply below_alloc | apply pw_below_drewN | apply below_drew1 | refine below_set ?_ GE105.out)) hb)
                have n2_ := Aside0.mk (hbox)
                have n3_ := Aside0.mk ((by rw [hg]; exact (below_size (by repeat (with_reducible first | exact HB.out | apply below_alloc | apply pw_below_drewN | apply below_drew1 | refine below_set ?_ GE105.out))) : w.heap.size ≤ gb106))
                have n4_ := Aside0.mk ((by rw [hg]; exact (below_size (by repeat (with_reducible first | exact HB.out | apply below_alloc | apply pw_below_drewN | apply below_drew1 | refine below_set ?_ GE105.out))) : w.heap.size ≤ gb106))
                have n5_ := Aside0.mk ((by rw [hg]; exact Nat.ne_of_lt (blk_lt (g := gb105) (o := .cells #[.int .i64 0, .int .i64 0, .string (⟨#[]⟩ : ByteArray), .slice none 0 0, .slice none 0 0, .slice none 0 0] 32 (0, 0)) (by (with_reducible repeat (first | refine blk_drewN ?_ _ | refine blk_drew ?_ | refine blk_alloc ?_ _)); exact BK105.out)) : gb105 ≠ gb106))
                have n6_ := Aside0.mk ((by rw [hg]; exact Nat.ne_of_gt (blk_lt (g := gb105) (o := .cells #[.int .i64 0, .int .i64 0, .string (⟨#[]⟩ : ByteArray), .slice none 0 0, .slice none 0 0, .slice none 0 0] 32 (0, 0)) (by (with_reducible repeat (first | refine blk_drewN ?_ _ | refine blk_drew ?_ | refine blk_alloc ?_ _)); exact BK105.out)) : gb106 ≠ gb105))
                clear BK105
                clear HB
                have BK105 := n0_
                have HB := n1_
                have BK106 := n2_
                have GW106 := n3_
                have GE106 := n4_
                have NB105_106 := n5_
                have NB106_105 := n6_
                clear n0_ n1_ n2_ n3_ n4_ n5_ n6_
                clear hb hbox hg
                refine hK.out _ _ ⟨(kc_ HB hw103_0), (kc_ HB hw103_1), (kc_ HB hw103_2), (kc_ HB hw103_3), (kc_ HB hw103_4), (kc_ HB hw103_5), (kc_ HB hw104_0), (kc_ HB hw104_1), (kc_ HB hw104_2), (kc_ HB hw104_3), (kc_ HB hw104_4), (kc_ HB hw104_5)⟩ (fun hHeld => ?_)
                clear hK K
                refine norm_ (a' := ?_) ?_ ?_
                rotate_left
                ·
                 show Act.put _ (some 7) _ = _
                 simp only [Act.put, List.setIfInBounds_toArray, List.set_cons_zero, List.set_cons_succ, i64_w, i32_w]
                 rfl
                exact norm_ (by simp only [putAll, Act.put, List.setIfInBounds_toArray, List.set_cons_zero, List.set_cons_succ]) (hCont (gb105, gb106) _ ⟨hHeld, (by (with_reducible repeat (first | refine blk_drewN ?_ _ | refine blk_drew ?_ | refine blk_alloc ?_ _)); exact BK105.out), (by (with_reducible repeat (first | refine blk_drewN ?_ _ | refine blk_drew ?_ | refine blk_alloc ?_ _)); exact BK106.out), GW105.out, GE105.out, NB106_105.out, NB105_106.out, GW106.out, GE106.out, (by repeat (first | (with_reducible first | exact HB.out | apply below_alloc | apply pw_below_drewN | apply below_drew1 | refine below_set ?_ GE105.out | refine below_set ?_ GE106.out) | exact HB.out))⟩)
               ·
                skip
                refine box_step ?hg (N := 7) ?hd (cs := #[.int .i64 0, .int .i64 0, .string (⟨#[]⟩ : ByteArray), .slice none 0 0, .slice none 0 0, .slice none 0 0]) (t := 32) ?hr ?_; (case hd => rfl); (case hg => rfl); (case hr => first | (go_simp; done) | (go_simp; rfl))
                intro gb106 hg w18 hbox hb
                have n0_ := Aside0.mk (below_step (by repeat (with_reducible first | exact HB.out | apply below_alloc | apply pw_below_drewN | apply below_drew1)) hb)
                have n1_ := Aside0.mk (hbox)
                have n2_ := Aside0.mk ((by rw [hg]; exact (below_size (by repeat (with_reducible first | exact HB.out | apply below_alloc | apply pw_below_drewN | apply below_drew1))) : w.heap.size ≤ gb106))
                have n3_ := Aside0.mk ((by rw [hg]; exact (below_size (by repeat (with_reducible first | exact HB.out | apply below_alloc | apply pw_below_drewN | apply below_drew1))) : w.heap.size ≤ gb106))
                clear HB
                have HB := n0_
                have BK106 := n1_
                have GW106 := n2_
                have GE106 := n3_
                clear n0_ n1_ n2_ n3_
                clear hb hbox hg
                refine hK.out _ _ ⟨(kc_ HB hw103_0), (kc_ HB hw103_1), (kc_ HB hw103_2), (kc_ HB hw103_3), (kc_ HB hw103_4), (kc_ HB hw103_5), (kc_ HB hw104_0), (kc_ HB hw104_1), (kc_ HB hw104_2), (kc_ HB hw104_3), (kc_ HB hw104_4), (kc_ HB hw104_5)⟩ (fun hHeld => ?_)
                clear hK K
                refine norm_ (a' := ?_) ?_ ?_
                rotate_left
                ·
                 show Act.put _ (some 7) _ = _
                 simp only [Act.put, List.setIfInBounds_toArray, List.set_cons_zero, List.set_cons_succ, i64_w, i32_w]
                 rfl
                refine one_ (i := 8) (N := some 6) #[true, true, true, true, true, true, true, true, true, true, false, false] rfl rfl (one_of HT_.out (by kernel_rfl)) (by decide) (fun K hK => ?_)
                refine box_step ?hg (N := 6) ?hd (cs := #[.int .i64 0, .int .i64 0, .string (⟨#[]⟩ : ByteArray), .slice none 0 0, .slice none 0 0, .slice none 0 0]) (t := 32) ?hr ?_; (case hd => rfl); (case hg => rfl); (case hr => first | (go_simp; done) | (go_simp; rfl))
                intro gb105 hg w19 hbox hb
                have n0_ := Aside0.mk (blk_below (g := gb106) (o := .cells #[.int .i64 0, .int .i64 0, .string (⟨#[]⟩ : ByteArray), .slice none 0 0, .slice none 0 0, .slice none 0 0] 32 (0, 0)) (by (with_reducible repeat (first | refine blk_drewN ?_ _ | refine blk_drew ?_ | refine blk_alloc ?_ _)); exact BK106.out) hb)
                have n1_ := Aside0.mk (below_step (by repeat (with_reducible first | exact HB.out | apply below_alloc | apply pw_below_drewN | apply below_drew1 | refine below_set ?_ GE106.out)) hb)
                have n2_ := Aside0.mk (hbox)
                have n3_ := Aside0.mk ((by rw [hg]; exact (below_size (by repeat (with_reducible first | exact HB.out | apply below_alloc | apply pw_below_drewN | apply below_drew1 | refine below_set ?_ GE106.out))) : w.heap.size ≤ gb105))
                have n4_ := Aside0.mk ((by rw [hg]; exact (below_size (by repeat (with_reducible first | exact HB.out | apply below_alloc | apply pw_below_drewN | apply below_drew1 | refine below_set ?_ GE106.out))) : w.heap.size ≤ gb105))
                have n5_ := Aside0.mk ((by rw [hg]; exact Nat.ne_of_lt (blk_lt (g := gb106) (o := .cells #[.int .i64 0, .int .i64 0, .string (⟨#[]⟩ : ByteArray), .slice none 0 0, .slice none 0 0, .slice none 0 0] 32 (0, 0)) (by (with_reducible repeat (first | refine blk_drewN ?_ _ | refine blk_drew ?_ | refine blk_alloc ?_ _)); exact BK106.out)) : gb106 ≠ gb105))
                have n6_ := Aside0.mk ((by rw [hg]; exact Nat.ne_of_gt (blk_lt (g := gb106) (o := .cells #[.int .i64 0, .int .i64 0, .string (⟨#[]⟩ : ByteArray), .slice none 0 0, .slice none 0 0, .slice none 0 0] 32 (0, 0)) (by (with_reducible repeat (first | refine blk_drewN ?_ _ | refine blk_drew ?_ | refine blk_alloc ?_ _)); exact BK106.out)) : gb105 ≠ gb106))
                clear BK106
                clear HB
                have BK106 := n0_
                have HB := n1_
                have BK105 := n2_
                have GW105 := n3_
                have GE105 := n4_
                have NB106_105 := n5_
                have NB105_106 := n6_
                clear n0_ n1_ n2_ n3_ n4_ n5_ n6_
                clear hb hbox hg
                refine hK.out _ _ ⟨(kc_ HB hw103_0), (kc_ HB hw103_1), (kc_ HB hw103_2), (kc_ HB hw103_3), (kc_ HB hw103_4), (kc_ HB hw103_5), (kc_ HB hw104_0), (kc_ HB hw104_1), (kc_ HB hw104_2), (kc_ HB hw104_3), (kc_ HB hw104_4), (kc_ HB hw104_5)⟩ (fun hHeld => ?_)
                clear hK K
                refine norm_ (a' := ?_) ?_ ?_
                rotate_left
                ·
                 show Act.put _ (some 6) _ = _
                 simp only [Act.put, List.setIfInBounds_toArray, List.set_cons_zero, List.set_cons_succ, i64_w, i32_w]
                 rfl
                exact norm_ (by simp only [putAll, Act.put, List.setIfInBounds_toArray, List.set_cons_zero, List.set_cons_succ]) (hCont (gb105, gb106) _ ⟨hHeld, (by (with_reducible repeat (first | refine blk_drewN ?_ _ | refine blk_drew ?_ | refine blk_alloc ?_ _)); exact BK105.out), (by (with_reducible repeat (first | refine blk_drewN ?_ _ | refine blk_drew ?_ | refine blk_alloc ?_ _)); exact BK106.out), GW105.out, GE105.out, NB106_105.out, NB105_106.out, GW106.out, GE106.out, (by repeat (first | (with_reducible first | exact HB.out | apply below_alloc | apply pw_below_drewN | apply below_drew1 | refine below_set ?_ GE106.out | refine below_set ?_ GE105.out) | exact HB.out))⟩)
              rintro ⟨gb105, gb106⟩ w20 ⟨hS_, h0_, h1_, h2_, h3_, h4_, h5_, h6_, h7_, h8_⟩
              have n0_ : Aside0 (w20.heap[gb105]? = some (.cells #[.int .i64 0, .int .i64 0, .string (⟨#[]⟩ : ByteArray), .slice none 0 0, .slice none 0 0, .slice none 0 0] 32 (0, 0))) := ⟨h0_⟩
              have n1_ : Aside0 (w20.heap[gb106]? = some (.cells #[.int .i64 0, .int .i64 0, .string (⟨#[]⟩ : ByteArray), .slice none 0 0, .slice none 0 0, .slice none 0 0] 32 (0, 0))) := ⟨h1_⟩
              have n2_ : Aside0 (w.heap.size ≤ gb105) := ⟨h2_⟩
              have n3_ : Aside0 (w.heap.size ≤ gb105) := ⟨h3_⟩
              have n4_ : Aside0 (gb106 ≠ gb105) := ⟨h4_⟩
              have n5_ : Aside0 (gb105 ≠ gb106) := ⟨h5_⟩
              have n6_ : Aside0 (w.heap.size ≤ gb106) := ⟨h6_⟩
              have n7_ : Aside0 (w.heap.size ≤ gb106) := ⟨h7_⟩
              have n8_ : Aside0 (Below w.heap.size w w20) := ⟨h8_⟩
              clear HB
              clear h0_ h1_ h2_ h3_ h4_ h5_ h6_ h7_ h8_
              have BK105 := n0_
              have BK106 := n1_
              have GW105 := n2_
              have GE105 := n3_
              have NB106_105 := n4_
              have NB105_106 := n5_
              have GW106 := n6_
              have GE106 := n7_
              have HB := n8_
              clear n0_ n1_ n2_ n3_ n4_ n5_ n6_ n7_ n8_
              have hHeld : w20.cell? (ad103.add ((x15_1).toNat * 6)) = some (.int .i64 ((rd_T32 l0 x15_1).f0)) ∧ w20.cell? ⟨(ad103.add ((x15_1).toNat * 6)).block, (ad103.add ((x15_1).toNat * 6)).off + 1, none⟩ = some (.int .i64 ((rd_T32 l0 x15_1).f1)) ∧ w20.cell? ⟨(ad103.add ((x15_1).toNat * 6)).block, (ad103.add ((x15_1).toNat * 6)).off + 2, none⟩ = some (.string ((rd_T32 l0 x15_1).f2)) ∧ w20.cell? ⟨(ad103.add ((x15_1).toNat * 6)).block, (ad103.add ((x15_1).toNat * 6)).off + 3, none⟩ = some (.slice A103_3 ((rd_T32 l0 x15_1).f3).length c103_3) ∧ w20.cell? ⟨(ad103.add ((x15_1).toNat * 6)).block, (ad103.add ((x15_1).toNat * 6)).off + 4, none⟩ = some (.slice A103_4 ((rd_T32 l0 x15_1).f4).length c103_4) ∧ w20.cell? ⟨(ad103.add ((x15_1).toNat * 6)).block, (ad103.add ((x15_1).toNat * 6)).off + 5, none⟩ = some (.slice A103_5 ((rd_T32 l0 x15_1).f5).length c103_5) ∧ w20.cell? (ad104.add ((x15_1).toNat * 6)) = some (.int .i64 ((rd_T32 l1 x15_1).f0)) ∧ w20.cell? ⟨(ad104.add ((x15_1).toNat * 6)).block, (ad104.add ((x15_1).toNat * 6)).off + 1, none⟩ = some (.int .i64 ((rd_T32 l1 x15_1).f1)) ∧ w20.cell? ⟨(ad104.add ((x15_1).toNat * 6)).block, (ad104.add ((x15_1).toNat * 6)).off + 2, none⟩ = some (.string ((rd_T32 l1 x15_1).f2)) ∧ w20.cell? ⟨(ad104.add ((x15_1).toNat * 6)).block, (ad104.add ((x15_1).toNat * 6)).off + 3, none⟩ = some (.slice A104_3 ((rd_T32 l1 x15_1).f3).length c104_3) ∧ w20.cell? ⟨(ad104.add ((x15_1).toNat * 6)).block, (ad104.add ((x15_1).toNat * 6)).off + 4, none⟩ = some (.slice A104_4 ((rd_T32 l1 x15_1).f4).length c104_4) ∧ w20.cell? ⟨(ad104.add ((x15_1).toNat * 6)).block, (ad104.add ((x15_1).toNat * 6)).off + 5, none⟩ = some (.slice A104_5 ((rd_T32 l1 x15_1).f5).length c104_5) := hS_
              refine norm_ (a' := ?_) ?_ ?_
              rotate_left
              ·
               simp only [putAll, Act.put, List.setIfInBounds_toArray, List.set_cons_zero, List.set_cons_succ]
               rfl
              refine one_ (i := 10) (N := none) #[true, true, true, true, true, true, true, true, true, true, true, false] rfl rfl (one_of HT_.out (by kernel_rfl)) (by decide) (fun K hK => ?_)
              have hs21 : w20.cell? ⟨gb105, 0, none⟩ = some (.int .i64 0) := (blk_cell BK105.out 0).trans rfl
              have hfs21 := blk_frozen BK105.out 0
              have hns21_1 := NB106_105.out
              have hms21_1 := NB105_106.out
              have hs22 : w20.cell? ⟨gb105, 1, none⟩ = some (.int .i64 0) := (blk_cell BK105.out 1).trans rfl
              have hfs22 := blk_frozen BK105.out 1
              have hns22_1 := NB106_105.out
              have hms22_1 := NB105_106.out
              have hs23 : w20.cell? ⟨gb105, 2, none⟩ = some (.string (⟨#[]⟩ : ByteArray)) := (blk_cell BK105.out 2).trans rfl
              have hfs23 := blk_frozen BK105.out 2
              have hns23_1 := NB106_105.out
              have hms23_1 := NB105_106.out
              have hs24 : w20.cell? ⟨gb105, 3, none⟩ = some (.slice none 0 0) := (blk_cell BK105.out 3).trans rfl
              have hfs24 := blk_frozen BK105.out 3
              have hns24_1 := NB106_105.out
              have hms24_1 := NB105_106.out
              have hs25 : w20.cell? ⟨gb105, 4, none⟩ = some (.slice none 0 0) := (blk_cell BK105.out 4).trans rfl
              have hfs25 := blk_frozen BK105.out 4
              have hns25_1 := NB106_105.out
              have hms25_1 := NB105_106.out
              have hs26 : w20.cell? ⟨gb105, 5, none⟩ = some (.slice none 0 0) := (blk_cell BK105.out 5).trans rfl
              have hfs26 := blk_frozen BK105.out 5
              have hns26_1 := NB106_105.out
              have hms26_1 := NB105_106.out
              refine skip_ (w1 := ?_) (by rfl) rfl ?_ ?_
              rotate_left
              ·
               go_simp
               rfl
              refine hK.out _ _ ⟨((cf6_ hw103_0 GW105).trans (hHeld.1)), ((cf6_ hw103_1 GW105).trans (hHeld.2.1)), ((cf6_ hw103_2 GW105).trans (hHeld.2.2.1)), ((cf6_ hw103_3 GW105).trans (hHeld.2.2.2.1)), ((cf6_ hw103_4 GW105).trans (hHeld.2.2.2.2.1)), ((cf6_ hw103_5 GW105).trans (hHeld.2.2.2.2.2.1)), ((cf6_ hw104_0 GW105).trans (hHeld.2.2.2.2.2.2.1)), ((cf6_ hw104_1 GW105).trans (hHeld.2.2.2.2.2.2.2.1)), ((cf6_ hw104_2 GW105).trans (hHeld.2.2.2.2.2.2.2.2.1)), ((cf6_ hw104_3 GW105).trans (hHeld.2.2.2.2.2.2.2.2.2.1)), ((cf6_ hw104_4 GW105).trans (hHeld.2.2.2.2.2.2.2.2.2.2.1)), ((cf6_ hw104_5 GW105).trans (hHeld.2.2.2.2.2.2.2.2.2.2.2))⟩ (fun hHeld => ?_)
              clear hK K
              refine one_ (i := 11) (N := none) #[true, true, true, true, true, true, true, true, true, true, true, true] rfl rfl (one_of HT_.out (by kernel_rfl)) (by decide) (fun K hK => ?_)
              have hs27 : w20.cell? ⟨gb106, 0, none⟩ = some (.int .i64 0) := (blk_cell BK106.out 0).trans rfl
              have hfs27 := blk_frozen BK106.out 0
              have hns27_0 := NB105_106.out
              have hms27_0 := NB106_105.out
              have hs28 : w20.cell? ⟨gb106, 1, none⟩ = some (.int .i64 0) := (blk_cell BK106.out 1).trans rfl
              have hfs28 := blk_frozen BK106.out 1
              have hns28_0 := NB105_106.out
              have hms28_0 := NB106_105.out
              have hs29 : w20.cell? ⟨gb106, 2, none⟩ = some (.string (⟨#[]⟩ : ByteArray)) := (blk_cell BK106.out 2).trans rfl
              have hfs29 := blk_frozen BK106.out 2
              have hns29_0 := NB105_106.out
              have hms29_0 := NB106_105.out
              have hs30 : w20.cell? ⟨gb106, 3, none⟩ = some (.slice none 0 0) := (blk_cell BK106.out 3).trans rfl
              have hfs30 := blk_frozen BK106.out 3
              have hns30_0 := NB105_106.out
              have hms30_0 := NB106_105.out
              have hs31 : w20.cell? ⟨gb106, 4, none⟩ = some (.slice none 0 0) := (blk_cell BK106.out 4).trans rfl
              have hfs31 := blk_frozen BK106.out 4
              have hns31_0 := NB105_106.out
              have hms31_0 := NB106_105.out
              have hs32 : w20.cell? ⟨gb106, 5, none⟩ = some (.slice none 0 0) := (blk_cell BK106.out 5).trans rfl
              have hfs32 := blk_frozen BK106.out 5
              have hns32_0 := NB105_106.out
              have hms32_0 := NB106_105.out
              refine skip_ (w1 := ?_) (by rfl) rfl ?_ ?_
              rotate_left
              ·
               go_simp
               rfl
              refine hK.out _ _ ⟨((cf6_ hw103_0 GW106).trans (hHeld.1)), ((cf6_ hw103_1 GW106).trans (hHeld.2.1)), ((cf6_ hw103_2 GW106).trans (hHeld.2.2.1)), ((cf6_ hw103_3 GW106).trans (hHeld.2.2.2.1)), ((cf6_ hw103_4 GW106).trans (hHeld.2.2.2.2.1)), ((cf6_ hw103_5 GW106).trans (hHeld.2.2.2.2.2.1)), ((cf6_ hw104_0 GW106).trans (hHeld.2.2.2.2.2.2.1)), ((cf6_ hw104_1 GW106).trans (hHeld.2.2.2.2.2.2.2.1)), ((cf6_ hw104_2 GW106).trans (hHeld.2.2.2.2.2.2.2.2.1)), ((cf6_ hw104_3 GW106).trans (hHeld.2.2.2.2.2.2.2.2.2.1)), ((cf6_ hw104_4 GW106).trans (hHeld.2.2.2.2.2.2.2.2.2.2.1)), ((cf6_ hw104_5 GW106).trans (hHeld.2.2.2.2.2.2.2.2.2.2.2))⟩ (fun hHeld => ?_)
              clear hK K
              refine done_ (done_of HT_.out (by kernel_rfl)) ?_
              have hnb33 := NB105_106.out
              have hnc33 := NB106_105.out
              have hcz34_0 : w20.cell? ⟨gb105, 0, none⟩ = some (.int .i64 0) := (blk_cell BK105.out 0).trans rfl
              have hcz34_1 : w20.cell? ⟨gb105, 1, none⟩ = some (.int .i64 0) := (blk_cell BK105.out 1).trans rfl
              have hcz34_2 : w20.cell? ⟨gb105, 2, none⟩ = some (.string (⟨#[]⟩ : ByteArray)) := (blk_cell BK105.out 2).trans rfl
              have hcz34_3 : w20.cell? ⟨gb105, 3, none⟩ = some (.slice none 0 0) := (blk_cell BK105.out 3).trans rfl
              have hcz34_4 : w20.cell? ⟨gb105, 4, none⟩ = some (.slice none 0 0) := (blk_cell BK105.out 4).trans rfl
              have hcz34_5 : w20.cell? ⟨gb105, 5, none⟩ = some (.slice none 0 0) := (blk_cell BK105.out 5).trans rfl
              have hfz34_0 := blk_frozen BK105.out 0
              have hfz34_1 := blk_frozen BK105.out 1
              have hfz34_2 := blk_frozen BK105.out 2
              have hfz34_3 := blk_frozen BK105.out 3
              have hfz34_4 := blk_frozen BK105.out 4
              have hfz34_5 := blk_frozen BK105.out 5
              have hcz35_0 : w20.cell? ⟨gb106, 0, none⟩ = some (.int .i64 0) := (blk_cell BK106.out 0).trans rfl
              have hcz35_1 : w20.cell? ⟨gb106, 1, none⟩ = some (.int .i64 0) := (blk_cell BK106.out 1).trans rfl
              have hcz35_2 : w20.cell? ⟨gb106, 2, none⟩ = some (.string (⟨#[]⟩ : ByteArray)) := (blk_cell BK106.out 2).trans rfl
              have hcz35_3 : w20.cell? ⟨gb106, 3, none⟩ = some (.slice none 0 0) := (blk_cell BK106.out 3).trans rfl
              have hcz35_4 : w20.cell? ⟨gb106, 4, none⟩ = some (.slice none 0 0) := (blk_cell BK106.out 4).trans rfl
              have hcz35_5 : w20.cell? ⟨gb106, 5, none⟩ = some (.slice none 0 0) := (blk_cell BK106.out 5).trans rfl
              have hfz35_0 := blk_frozen BK106.out 0
              have hfz35_1 := blk_frozen BK106.out 1
              have hfz35_2 := blk_frozen BK106.out 2
              have hfz35_3 := blk_frozen BK106.out 3
              have hfz35_4 := blk_frozen BK106.out 4
              have hfz35_5 := blk_frozen BK106.out 5
              have tkA11 : True := trivial
              try go_wp2_with (first | (go_at_call 42; clear tkA11; (with_reducible refine (emendationref10_texts.calls k1 _ _ ((rd_T32 l0 x15_1).f3) _ _ ((rd_T32 l1 x15_1).f3) true _ ?side1 ?side2 ?side3 ?side4 A11.out).mono ?_); (case side1 => exact Kd.C_below HR103_3.out (by repeat (first | (with_reducible first | exact HB.out | apply below_alloc | apply pw_below_drewN | apply below_drew1 | refine below_set ?_ GE105.out | refine below_set ?_ GE106.out) | exact HB.out))); (case side2 => exact HC103_3.out); (case side3 => exact Kd.C_below HR104_3.out (by repeat (first | (with_reducible first | exact HB.out | apply below_alloc | apply pw_below_drewN | apply below_drew1 | refine below_set ?_ GE105.out | refine below_set ?_ GE106.out) | exact HB.out))); (case side4 => exact HC104_3.out); rintro e w' ⟨rfl, ⟨nd, rfl⟩⟩; have tkA13 : True := trivial) | (go_at_call 43; clear tkA13; (with_reducible refine (emendationref07_Same.calls _ _ ((rd_T32 l0 x15_1).f4) _ _ ((rd_T32 l1 x15_1).f4) true _ ?side1 ?side2 ?side3 ?side4 A13.out).mono ?_); (case side1 => exact Kd.C_below HR103_4.out (by repeat (first | (with_reducible first | exact HB.out | apply below_alloc | apply pw_below_drewN | apply below_drew1 | refine below_set ?_ GE105.out | refine below_set ?_ GE106.out) | exact HB.out))); (case side2 => exact HC103_4.out); (case side3 => exact Kd.C_below HR104_4.out (by repeat (first | (with_reducible first | exact HB.out | apply below_alloc | apply pw_below_drewN | apply below_drew1 | refine below_set ?_ GE105.out | refine below_set ?_ GE106.out) | exact HB.out))); (case side4 => exact HC104_4.out); rintro e w' ⟨rfl, ⟨nd, rfl⟩⟩; have tkA15 : True := trivial) | (go_at_call 25; clear tkA15; (with_reducible refine (ih k1 (by have := HK1.out; omega) _ _ ((rd_T32 l0 x15_1).f5) _ _ ((rd_T32 l1 x15_1).f5) true _ ?side1 ?side2 ?side3 ?side4 A15.out).mono ?_); (case side1 => exact Kd.C_below HR103_5.out (by repeat (first | (with_reducible first | exact HB.out | apply below_alloc | apply pw_below_drewN | apply below_drew1 | refine below_set ?_ GE105.out | refine below_set ?_ GE106.out) | exact HB.out))); (case side2 => exact HC103_5.out); (case side3 => exact Kd.C_below HR104_5.out (by repeat (first | (with_reducible first | exact HB.out | apply below_alloc | apply pw_below_drewN | apply below_drew1 | refine below_set ?_ GE105.out | refine below_set ?_ GE106.out) | exact HB.out))); (case side4 => exact HC104_5.out); rintro e w36 ⟨rfl, hb⟩; have n0_ := Aside0.mk (below_step (by repeat (first | (with_reducible first | exact HB.out | apply below_alloc | apply pw_below_drewN | apply below_drew1 | refine below_set ?_ GE105.out | refine below_set ?_ GE106.out) | exact HB.out)) hb); clear HB; have HB := n0_; clear n0_; (try clear hb)))
              go_roundg k1
              case measure => have := HK1.out; omega
              case rel => exact ⟨(wrap64 (x15_1 + 1)), (by first | rfl | (simp; done) | (simp [*]; done) | (simp [bne, beq_nil_E]; done)), H', ⟨by have := HK1.out; omega⟩, ⟨by repeat (first | (with_reducible first | exact HB.out | apply below_alloc | apply pw_below_drewN | apply below_drew1 | refine below_set ?_ GE105.out | refine below_set ?_ GE106.out) | exact HB.out)⟩⟩
             ·
              rw [if_neg c16] at H
              exact absurd H (by simp)
            ·
             rw [if_neg c14] at H
             exact absurd H (by simp)
           ·
            rw [if_neg c12] at H
            exact absurd H (by simp)
          ·
           rw [if_neg c10] at H
           exact absurd H (by simp)
         ·
          rw [if_neg c9] at H
          exact absurd H (by simp)
        ·
         rw [if_neg c8] at H
         exact absurd H (by simp)
       ·
        rw [if_neg c7] at H
        exact absurd H (by simp)
      ·
       rw [if_neg c6] at H
       exact absurd H (by simp)
     ·
      rw [if_neg c5] at H
      exact absurd H (by simp)
    ·
     rw [if_neg c4] at H
     have c4b0 : decide (x15_1 < (l0.length : Int)) = false := decide_eq_false c4
     clear c4
     obtain rfl := Option.some.inj H
     go_wp2
     go_ret
     exact ⟨by first | rfl | (simp [errW_none, errW_some] <;> rfl) | (simp [*, errW_none, errW_some] <;> rfl), by repeat (with_reducible first | exact HB.out | apply below_alloc | apply pw_below_drewN | apply below_drew1)⟩
 ·
  rw [if_neg c3] at H
  have c3b0 : ((l0.length : Int) == (l1.length : Int)) = false := beq_eq_false_iff_ne.mpr c3
  have c3b1 : ((l0.length : Int) != (l1.length : Int)) = true := bne_iff_ne.mpr c3
  have c3b2 : (l0.length == l1.length) = false := by first | simpa using c3 | (simp at c3 ⊢; omega)
  obtain rfl := Option.some.inj H
  go_enter Tryd.func25, Tryd.ntmps25
  go_wp2
  go_ret
  exact ⟨by first | rfl | (simp [errW_none, errW_some] <;> rfl) | (simp [*, errW_none, errW_some] <;> rfl), by repeat (with_reducible first | exact HB.out | apply below_alloc | apply pw_below_drewN | apply below_drew1)⟩

end Go.Proofs.YticaofendehebaaDoor.X
