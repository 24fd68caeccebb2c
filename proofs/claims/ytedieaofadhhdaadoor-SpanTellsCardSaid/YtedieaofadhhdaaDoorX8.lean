-- Written by a program of this session (wip/mkprint.py over the kit's print) out of the translation; Lean checks it.
import Derived.Test.YtedieaofadhhdaaDoorX0
import Derived.Test.YtedieaofadhhdaaDoorX2
import Derived.Test.YtedieaofadhhdaaDoorGivenPlain
import Derived.Test.YtedieaofadhhdaaDoorGivenRight
import Derived.Test.YtedieaofadhhdaaDoorGivenStrs
import Derived.Test.YtedieaofadhhdaaDoorGivenTabs
namespace Go.Proofs.YtedieaofadhhdaaDoor.X
open Go.RowKit Go.Proofs.YtedieaofadhhdaaDoor.G Go.Proofs.YtedieaofadhhdaaDoorW.PrintWords Go.Proofs.YtedieaofadhhdaaDoorW.PrintLast Go.Proofs.YtedieaofadhhdaaDoorW.PrintMore
attribute [local go_sem] max2_int min2_int max_two min_two max_three min_three max_four min_four   -- for this text's walks alone
set_option linter.unusedVariables false
set_option linter.unusedSimpArgs false

-- GIVEN: function 12 (span_Right)

-- GIVEN: function 14 (span_Plain)

-- GIVEN: function 28 (strings_Count)

/-! ### span_Lines: function 15 -/
def span_Lines.f (l0 : List (S30)) : Option (Int) := (span_Plain.f l0).bind fun t146 => ((strings_Count.f t146 (⟨#[10]⟩ : ByteArray)).bind fun t147 => (some (wrap64 (1 + t147))))
set_option maxHeartbeats 8000000 in
set_option maxRecDepth 100000 in
theorem span_Lines.calls (A0 : Option Addr) (c0 : Nat) (l0 : List (S30)) (r : Int) (w : World) (hr0 : Kd.C k30 w A0 l0.length l0) (hc0 : l0.length ≤ c0) (h : span_Lines.f l0 = some r) :
  Calls Tryd.prog 15 #[.slice A0 l0.length c0] w fun e w' => e = .returned (.int .i64 r) ∧ Below w.heap.size w w' := by
 have HR0 := Aside0.mk hr0
 have HC0 := Aside0.mk hc0
 clear hr0 hc0
 have HB := Aside0.mk (Below.refl w.heap.size w)
 have H : ((span_Plain.f l0).bind fun t146 => ((strings_Count.f t146 (⟨#[10]⟩ : ByteArray)).bind fun t147 => (some (wrap64 (1 + t147))))) = some r := h
 clear h
 replace H := Option.bind_eq_some_iff.mp H
 obtain ⟨t146, A20, H⟩ := H
 replace H : ((strings_Count.f t146 (⟨#[10]⟩ : ByteArray)).bind fun t147 => (some (wrap64 (1 + t147)))) = some r := H
 have A2 := Aside0.mk A20
 clear A20
 replace H := Option.bind_eq_some_iff.mp H
 obtain ⟨t147, A30, H⟩ := H
 replace H : (some (wrap64 (1 + t147))) = some r := H
 have A3 := Aside0.mk A30
 clear A30
 obtain rfl := Option.some.inj H
 go_enter Tryd.func15, Tryd.ntmps15
 go_wp2_with (first | ((with_reducible refine gate_callee (f := 14) rfl ?_); refine goesL_ (some 4) rfl rfl Tryd.func14 (by kernel_rfl) rfl #[.slice A0 l0.length c0] rfl (by (try simp only [List.map_toArray, List.map_cons, List.map_nil]); first | done | rfl | (simp only [List.length_drop, List.length_take]; rfl)) ?_; (with_reducible refine (span_Plain.calls _ _ l0 t146 _ ?side1 ?side2 A2.out).mono ?_); (case side1 => repeat (first | exact HR0.out | (with_reducible refine Kd.C_alloc ?_ _) | (with_reducible refine Kd.C_drewN ?_ _) | (with_reducible refine Kd.C_drew ?_))); (case side2 => exact HC0.out); rintro e w4 ⟨rfl, hb⟩; refine ⟨_, rfl, ?_⟩; have n0_ := Aside0.mk (below_step (by repeat (first | (with_reducible first | exact HB.out | apply below_alloc | apply pw_below_drewN | apply below_drew1) | exact HB.out)) hb); clear HB; have HB := n0_; clear n0_; (try clear hb); (try clear hb2); (try clear hk); (try clear hi)) | ((with_reducible refine gate_callee (f := 28) rfl ?_); refine goesL_ (some 5) rfl rfl Tryd.func28 (by kernel_rfl) rfl #[.string t146, .string (⟨#[10]⟩ : ByteArray)] rfl (by (try simp only [List.map_toArray, List.map_cons, List.map_nil]); first | done | rfl | (simp only [List.length_drop, List.length_take]; rfl)) ?_; (with_reducible refine (strings_Count.calls t146 (⟨#[10]⟩ : ByteArray) t147 _ A3.out).mono ?_); rintro e w5 ⟨rfl, hb⟩; refine ⟨_, rfl, ?_⟩; have n0_ := Aside0.mk (below_step (by repeat (first | (with_reducible first | exact HB.out | apply below_alloc | apply pw_below_drewN | apply below_drew1) | exact HB.out)) hb); clear HB; have HB := n0_; clear n0_; (try clear hb); (try clear hb2); (try clear hk); (try clear hi)))
 go_ret
 exact ⟨by first | rfl | (simp [errW_none, errW_some] <;> rfl) | (simp [*, errW_none, errW_some] <;> rfl), by repeat (first | (with_reducible first | exact HB.out | apply below_alloc | apply pw_below_drewN | apply below_drew1) | exact HB.out)⟩

/-! ### emendationlaw07_awake: function 9 -/
def emendationlaw07_awake.f (k : Nat)  : Option (Bool) := (some (([(⟨1, (⟨#[97, 32, 98]⟩ : ByteArray), ([] : List (S30))⟩ : S30)] : List (S30)) : List (S30))).bind fun y148 => ((span_Right.f k y148).bind fun t151 => (if t151 = true then ((span_Plain.f y148).bind fun t152 => (if t152.toList = ([97, 32, 98] : List UInt8) then ((span_Lines.f y148).bind fun t153 => (if t153 = 1 then ((span_Right.f k (([(⟨1, (⟨#[32, 97]⟩ : ByteArray), ([] : List (S30))⟩ : S30)] : List (S30)))).bind fun t157 => (some (!t157))) else (some false))) else (some false))) else (some false)))
set_option maxHeartbeats 8000000 in
set_option maxRecDepth 100000 in
theorem emendationlaw07_awake.calls (k : Nat)  (r : Bool) (w : World) (hT : Tabs w) (h : emendationlaw07_awake.f k  = some r) :
  Calls Tryd.prog 9 #[] w fun e w' => e = .returned (.bool r) ∧ Below w.heap.size w w' := by
 have hu30 := Tryd.underlying30
 have HT := Aside0.mk hT
 clear hT
 have HB := Aside0.mk (Below.refl w.heap.size w)
 have H : ((some (([(⟨1, (⟨#[97, 32, 98]⟩ : ByteArray), ([] : List (S30))⟩ : S30)] : List (S30)) : List (S30))).bind fun y148 => ((span_Right.f k y148).bind fun t151 => (if t151 = true then ((span_Plain.f y148).bind fun t152 => (if t152.toList = ([97, 32, 98] : List UInt8) then ((span_Lines.f y148).bind fun t153 => (if t153 = 1 then ((span_Right.f k (([(⟨1, (⟨#[32, 97]⟩ : ByteArray), ([] : List (S30))⟩ : S30)] : List (S30)))).bind fun t157 => (some (!t157))) else (some false))) else (some false))) else (some false)))) = some r := h
 clear h
 obtain ⟨y148, hy148⟩ : ∃ y_ : List (S30), y_ = (([(⟨1, (⟨#[97, 32, 98]⟩ : ByteArray), ([] : List (S30))⟩ : S30)] : List (S30))) := ⟨_, rfl⟩
 replace H : ((span_Right.f k y148).bind fun t151 => (if t151 = true then ((span_Plain.f y148).bind fun t152 => (if t152.toList = ([97, 32, 98] : List UInt8) then ((span_Lines.f y148).bind fun t153 => (if t153 = 1 then ((span_Right.f k (([(⟨1, (⟨#[32, 97]⟩ : ByteArray), ([] : List (S30))⟩ : S30)] : List (S30)))).bind fun t157 => (some (!t157))) else (some false))) else (some false))) else (some false))) = some r := by first | (rw [hy148]; with_reducible exact H) | (have H2_ := (Option.bind_some _ _).symm.trans H; rw [hy148]; with_reducible exact H2_) | (have H2_ := (Option.bind_some _ _).symm.trans H; with_reducible exact H2_) | with_reducible exact H | (rw [hy148]; exact H) | exact H
 have Ny148 := Aside0.mk hy148
 clear hy148
 replace H := Option.bind_eq_some_iff.mp H
 obtain ⟨t151, A10, H⟩ := H
 replace H : (if t151 = true then ((span_Plain.f y148).bind fun t152 => (if t152.toList = ([97, 32, 98] : List UInt8) then ((span_Lines.f y148).bind fun t153 => (if t153 = 1 then ((span_Right.f k (([(⟨1, (⟨#[32, 97]⟩ : ByteArray), ([] : List (S30))⟩ : S30)] : List (S30)))).bind fun t157 => (some (!t157))) else (some false))) else (some false))) else (some false)) = some r := H
 have A1 := Aside0.mk A10
 clear A10
 by_cases c2 : t151 = true
 ·
  subst c2
  have H1 : ((span_Plain.f y148).bind fun t152 => (if t152.toList = ([97, 32, 98] : List UInt8) then ((span_Lines.f y148).bind fun t153 => (if t153 = 1 then ((span_Right.f k (([(⟨1, (⟨#[32, 97]⟩ : ByteArray), ([] : List (S30))⟩ : S30)] : List (S30)))).bind fun t157 => (some (!t157))) else (some false))) else (some false))) = some r := by rw [if_pos rfl] at H; exact H
  clear H
  have H := H1
  clear H1
  replace H := Option.bind_eq_some_iff.mp H
  obtain ⟨t152, A30, H⟩ := H
  replace H : (if t152.toList = ([97, 32, 98] : List UInt8) then ((span_Lines.f y148).bind fun t153 => (if t153 = 1 then ((span_Right.f k (([(⟨1, (⟨#[32, 97]⟩ : ByteArray), ([] : List (S30))⟩ : S30)] : List (S30)))).bind fun t157 => (some (!t157))) else (some false))) else (some false)) = some r := H
  have A3 := Aside0.mk A30
  clear A30
  by_cases c4 : t152.toList = ([97, 32, 98] : List UInt8)
  ·
   rw [if_pos c4] at H
   have c4b0 : (t152.toList == ([97, 32, 98] : List UInt8)) = true := beq_iff_eq.mpr c4
   have c4b1 : (t152.toList != ([97, 32, 98] : List UInt8)) = false := bne_eq_false_iff_eq.mpr c4
   clear c4
   replace H := Option.bind_eq_some_iff.mp H
   obtain ⟨t153, A50, H⟩ := H
   replace H : (if t153 = 1 then ((span_Right.f k (([(⟨1, (⟨#[32, 97]⟩ : ByteArray), ([] : List (S30))⟩ : S30)] : List (S30)))).bind fun t157 => (some (!t157))) else (some false)) = some r := H
   have A5 := Aside0.mk A50
   clear A50
   by_cases c6 : t153 = 1
   ·
    rw [if_pos c6] at H
    have c6b0 : (t153 == 1) = true := beq_iff_eq.mpr c6
    have c6b1 : (t153 != 1) = false := bne_eq_false_iff_eq.mpr c6
    clear c6
    obtain ⟨y154, hy154⟩ : ∃ y_ : List (S30), y_ = (([(⟨1, (⟨#[32, 97]⟩ : ByteArray), ([] : List (S30))⟩ : S30)] : List (S30))) := ⟨_, rfl⟩
    replace H : ((span_Right.f k y154).bind fun t157 => (some (!t157))) = some r := by first | (rw [hy154]; with_reducible exact H) | (have H2_ := (Option.bind_some _ _).symm.trans H; rw [hy154]; with_reducible exact H2_) | (have H2_ := (Option.bind_some _ _).symm.trans H; with_reducible exact H2_) | with_reducible exact H | (rw [hy154]; exact H) | exact H
    have Ny154 := Aside0.mk hy154
    clear hy154
    replace H := Option.bind_eq_some_iff.mp H
    obtain ⟨t157, A70, H⟩ := H
    replace H : (some (!t157)) = some r := H
    have A7 := Aside0.mk A70
    clear A70
    obtain rfl := Option.some.inj H
    go_enter Tryd.func9, Tryd.ntmps9
    go_wp2_with (first | ((with_reducible refine gate_dst (N := 3) rfl ?_); (try (refine gate_guard (by rfl) ?_; dsimp only)); refine Kd.R_lit k30 _ 30 ?hg (N := 3) ?hd (xs := ([(⟨1, (⟨#[97, 32, 98]⟩ : ByteArray), ([] : List (S30))⟩ : S30)] : List (S30))) (inner := [.int .i64 1, .string (⟨#[97, 32, 98]⟩ : ByteArray), .slice none 0 0]) (ok := fun _ => True) (okp := fun _ => True) ?hr ?hp (fun _ hk => hk) trivial (Below.refl _ _) (Nat.le_refl _) (by simp) ?_; (case hd => rfl); (case hg => rfl); (case hr => first | (go_simp; done) | (go_simp; rfl)); (case hp => exact (Reps.c3 (show Kd.M k30 _ _ _ (⟨1, (⟨#[97, 32, 98]⟩ : ByteArray), ([] : List (S30))⟩ : S30) [.int .i64 1, .string (⟨#[97, 32, 98]⟩ : ByteArray), .slice none 0 0] from (k30_mkM _ _ _ (⟨1, (⟨#[97, 32, 98]⟩ : ByteArray), ([] : List (S30))⟩ : S30) (Kd.R_nil _ _ _ _ _))) (Reps.none _ _))); intro v149 w8 ho9 hb hg_ hnew_; clear hg_ hnew_; (first | rw [← Ny148.out] at ho9 | (simp only [Int.reduceToNat] at ho9; rw [← Ny148.out] at ho9)); have n0_ := Aside0.mk (Kd.R_lower ho9 (below_size (by repeat (first | (with_reducible first | exact HB.out | apply below_alloc | apply pw_below_drewN | apply below_drew1) | exact HB.out)))); have n1_ := Aside0.mk (below_step (by repeat (first | (with_reducible first | exact HB.out | apply below_alloc | apply pw_below_drewN | apply below_drew1) | exact HB.out)) hb); clear HB; have HO150 := n0_; have HB := n1_; clear n0_ n1_; clear hb ho9; obtain ⟨Ao10, co10, eo10⟩ := Kd.R_slice HO150.out; subst eo10) | ((with_reducible refine gate_callee (f := 12) rfl ?_); refine goesL_ (some 5) rfl rfl Tryd.func12 (by kernel_rfl) rfl #[.slice Ao10 y148.length co10] rfl (by (try simp only [List.map_toArray, List.map_cons, List.map_nil]); first | done | rfl | (simp only [List.length_drop, List.length_take]; rfl)) ?_; (with_reducible refine (span_Right.calls k _ _ y148 true _ ?side3 ?side1 ?side2 A1.out).mono ?_); (case side1 => repeat (first | exact (Kd.R_reads' HO150.out).2.2 | (with_reducible refine Kd.C_alloc ?_ _) | (with_reducible refine Kd.C_drewN ?_ _) | (with_reducible refine Kd.C_drew ?_))); (case side2 => exact (Kd.R_reads' HO150.out).2.1); (case side3 => first | exact HT.out | exact Tabs.at HT.out (by repeat (first | (with_reducible first | exact HB.out | apply below_alloc | apply pw_below_drewN | apply below_drew1) | exact HB.out))); rintro e w11 ⟨rfl, hb⟩; refine ⟨_, rfl, ?_⟩; have n0_ := Aside0.mk (Kd.R_below (by (with_reducible repeat (first | apply Kd.R_alloc | apply Kd.R_drewN | apply Kd.R_drew)); exact HO150.out) hb); have n1_ := Aside0.mk (below_step (by repeat (first | (with_reducible first | exact HB.out | apply below_alloc | apply pw_below_drewN | apply below_drew1) | exact HB.out)) hb); clear HO150; clear HB; have HO150 := n0_; have HB := n1_; clear n0_ n1_; (try clear hb); (try clear hb2); (try clear hk); (try clear hi); have tkA3 : True := trivial) | (go_at_call 14; clear tkA3; (with_reducible refine (span_Plain.calls _ _ y148 t152 _ ?side1 ?side2 A3.out).mono ?_); (case side1 => repeat (first | exact (Kd.R_reads' HO150.out).2.2 | (with_reducible refine Kd.C_alloc ?_ _) | (with_reducible refine Kd.C_drewN ?_ _) | (with_reducible refine Kd.C_drew ?_))); (case side2 => exact (Kd.R_reads' HO150.out).2.1); rintro e w12 ⟨rfl, hb⟩; have n0_ := Aside0.mk (Kd.R_below (by (with_reducible repeat (first | apply Kd.R_alloc | apply Kd.R_drewN | apply Kd.R_drew)); exact HO150.out) hb); have n1_ := Aside0.mk (below_step (by repeat (first | (with_reducible first | exact HB.out | apply below_alloc | apply pw_below_drewN | apply below_drew1) | exact HB.out)) hb); clear HO150; clear HB; have HO150 := n0_; have HB := n1_; clear n0_ n1_; (try clear hb); (try clear hb2); (try clear hk); (try clear hi); have tkA5 : True := trivial) | (go_at_call 15; clear tkA5; (with_reducible refine (span_Lines.calls _ _ y148 t153 _ ?side1 ?side2 A5.out).mono ?_); (case side1 => repeat (first | exact (Kd.R_reads' HO150.out).2.2 | (with_reducible refine Kd.C_alloc ?_ _) | (with_reducible refine Kd.C_drewN ?_ _) | (with_reducible refine Kd.C_drew ?_))); (case side2 => exact (Kd.R_reads' HO150.out).2.1); rintro e w13 ⟨rfl, hb⟩; have n0_ := Aside0.mk (Kd.R_below (by (with_reducible repeat (first | apply Kd.R_alloc | apply Kd.R_drewN | apply Kd.R_drew)); exact HO150.out) hb); have n1_ := Aside0.mk (below_step (by repeat (first | (with_reducible first | exact HB.out | apply below_alloc | apply pw_below_drewN | apply below_drew1) | exact HB.out)) hb); clear HO150; clear HB; have HO150 := n0_; have HB := n1_; clear n0_ n1_; (try clear hb); (try clear hb2); (try clear hk); (try clear hi)) | ((with_reducible refine gate_dst (N := 18) rfl ?_); (try (refine gate_guard (by rfl) ?_; dsimp only)); refine Kd.R_lit k30 _ 30 ?hg (N := 18) ?hd (xs := ([(⟨1, (⟨#[32, 97]⟩ : ByteArray), ([] : List (S30))⟩ : S30)] : List (S30))) (inner := [.int .i64 1, .string (⟨#[32, 97]⟩ : ByteArray), .slice none 0 0]) (ok := fun _ => True) (okp := fun _ => True) ?hr ?hp (fun _ hk => hk) trivial (Below.refl _ _) (Nat.le_refl _) (by simp) ?_; (case hd => rfl); (case hg => rfl); (case hr => first | (go_simp; done) | (go_simp; rfl)); (case hp => exact (Reps.c3 (show Kd.M k30 _ _ _ (⟨1, (⟨#[32, 97]⟩ : ByteArray), ([] : List (S30))⟩ : S30) [.int .i64 1, .string (⟨#[32, 97]⟩ : ByteArray), .slice none 0 0] from (k30_mkM _ _ _ (⟨1, (⟨#[32, 97]⟩ : ByteArray), ([] : List (S30))⟩ : S30) (Kd.R_nil _ _ _ _ _))) (Reps.none _ _))); intro v155 w14 ho15 hb hg_ hnew_; clear hg_ hnew_; (first | rw [← Ny154.out] at ho15 | (simp only [Int.reduceToNat] at ho15; rw [← Ny154.out] at ho15)); have n0_ := Aside0.mk (Kd.R_elder' (by (with_reducible repeat (first | apply Kd.R_alloc | apply Kd.R_drewN | apply Kd.R_drew)); exact HO150.out) (Kd.R_base ho15) hb); have n1_ := Aside0.mk (Kd.R_lower (Kd.R_new' ho15 (Kd.R_lt (by (with_reducible repeat (first | apply Kd.R_alloc | apply Kd.R_drewN | apply Kd.R_drew)); exact HO150.out))) (below_size (by repeat (first | (with_reducible first | exact HB.out | apply below_alloc | apply pw_below_drewN | apply below_drew1) | exact HB.out)))); have n2_ := Aside0.mk (below_step (by repeat (first | (with_reducible first | exact HB.out | apply below_alloc | apply pw_below_drewN | apply below_drew1) | exact HB.out)) hb); clear HO150; clear HB; have HO150 := n0_; have HO156 := n1_; have HB := n2_; clear n0_ n1_ n2_; clear hb ho15; obtain ⟨Ao16, co16, eo16⟩ := Kd.R_slice HO156.out; subst eo16; have tkA7 : True := trivial) | (go_at_call 12; clear tkA7; (with_reducible refine (span_Right.calls k _ _ y154 t157 _ ?side3 ?side1 ?side2 A7.out).mono ?_); (case side1 => repeat (first | exact (Kd.R_reads' HO156.out).2.2 | (with_reducible refine Kd.C_alloc ?_ _) | (with_reducible refine Kd.C_drewN ?_ _) | (with_reducible refine Kd.C_drew ?_))); (case side2 => exact (Kd.R_reads' HO156.out).2.1); (case side3 => first | exact HT.out | exact Tabs.at HT.out (by repeat (first | (with_reducible first | exact HB.out | apply below_alloc | apply pw_below_drewN | apply below_drew1) | exact HB.out))); rintro e w17 ⟨rfl, hb⟩; have n0_ := Aside0.mk (Kd.R_below (by (with_reducible repeat (first | apply Kd.R_alloc | apply Kd.R_drewN | apply Kd.R_drew)); exact HO150.out) hb); have n1_ := Aside0.mk (Kd.R_below (by (with_reducible repeat (first | apply Kd.R_alloc | apply Kd.R_drewN | apply Kd.R_drew)); exact HO156.out) hb); have n2_ := Aside0.mk (below_step (by repeat (first | (with_reducible first | exact HB.out | apply below_alloc | apply pw_below_drewN | apply below_drew1) | exact HB.out)) hb); clear HO150; clear HO156; clear HB; have HO150 := n0_; have HO156 := n1_; have HB := n2_; clear n0_ n1_ n2_; (try clear hb); (try clear hb2); (try clear hk); (try clear hi)))
    go_ret
    exact ⟨by first | rfl | (simp [errW_none, errW_some] <;> rfl) | (simp [*, errW_none, errW_some] <;> rfl), by repeat (first | (with_reducible first | exact HB.out | apply below_alloc | apply pw_below_drewN | apply below_drew1) | exact HB.out)⟩
   ·
    rw [if_neg c6] at H
    have c6b0 : (t153 == 1) = false := beq_eq_false_iff_ne.mpr c6
    have c6b1 : (t153 != 1) = true := bne_iff_ne.mpr c6
    obtain rfl := Option.some.inj H
    go_enter Tryd.func9, Tryd.ntmps9
    go_wp2_with (first | ((with_reducible refine gate_dst (N := 3) rfl ?_); (try (refine gate_guard (by rfl) ?_; dsimp only)); refine Kd.R_lit k30 _ 30 ?hg (N := 3) ?hd (xs := ([(⟨1, (⟨#[97, 32, 98]⟩ : ByteArray), ([] : List (S30))⟩ : S30)] : List (S30))) (inner := [.int .i64 1, .string (⟨#[97, 32, 98]⟩ : ByteArray), .slice none 0 0]) (ok := fun _ => True) (okp := fun _ => True) ?hr ?hp (fun _ hk => hk) trivial (Below.refl _ _) (Nat.le_refl _) (by simp) ?_; (case hd => rfl); (case hg => rfl); (case hr => first | (go_simp; done) | (go_simp; rfl)); (case hp => exact (Reps.c3 (show Kd.M k30 _ _ _ (⟨1, (⟨#[97, 32, 98]⟩ : ByteArray), ([] : List (S30))⟩ : S30) [.int .i64 1, .string (⟨#[97, 32, 98]⟩ : ByteArray), .slice none 0 0] from (k30_mkM _ _ _ (⟨1, (⟨#[97, 32, 98]⟩ : ByteArray), ([] : List (S30))⟩ : S30) (Kd.R_nil _ _ _ _ _))) (Reps.none _ _))); intro v149 w18 ho19 hb hg_ hnew_; clear hg_ hnew_; (first | rw [← Ny148.out] at ho19 | (simp only [Int.reduceToNat] at ho19; rw [← Ny148.out] at ho19)); have n0_ := Aside0.mk (Kd.R_lower ho19 (below_size (by repeat (first | (with_reducible first | exact HB.out | apply below_alloc | apply pw_below_drewN | apply below_drew1) | exact HB.out)))); have n1_ := Aside0.mk (below_step (by repeat (first | (with_reducible first | exact HB.out | apply below_alloc | apply pw_below_drewN | apply below_drew1) | exact HB.out)) hb); clear HB; have HO150 := n0_; have HB := n1_; clear n0_ n1_; clear hb ho19; obtain ⟨Ao20, co20, eo20⟩ := Kd.R_slice HO150.out; subst eo20) | ((with_reducible refine gate_callee (f := 12) rfl ?_); refine goesL_ (some 5) rfl rfl Tryd.func12 (by kernel_rfl) rfl #[.slice Ao20 y148.length co20] rfl (by (try simp only [List.map_toArray, List.map_cons, List.map_nil]); first | done | rfl | (simp only [List.length_drop, List.length_take]; rfl)) ?_; (with_reducible refine (span_Right.calls k _ _ y148 true _ ?side3 ?side1 ?side2 A1.out).mono ?_); (case side1 => repeat (first | exact (Kd.R_reads' HO150.out).2.2 | (with_reducible refine Kd.C_alloc ?_ _) | (with_reducible refine Kd.C_drewN ?_ _) | (with_reducible refine Kd.C_drew ?_))); (case side2 => exact (Kd.R_reads' HO150.out).2.1); (case side3 => first | exact HT.out | exact Tabs.at HT.out (by repeat (first | (with_reducible first | exact HB.out | apply below_alloc | apply pw_below_drewN | apply below_drew1) | exact HB.out))); rintro e w21 ⟨rfl, hb⟩; refine ⟨_, rfl, ?_⟩; have n0_ := Aside0.mk (Kd.R_below (by (with_reducible repeat (first | apply Kd.R_alloc | apply Kd.R_drewN | apply Kd.R_drew)); exact HO150.out) hb); have n1_ := Aside0.mk (below_step (by repeat (first | (with_reducible first | exact HB.out | apply below_alloc | apply pw_below_drewN | apply below_drew1) | exact HB.out)) hb); clear HO150; clear HB; have HO150 := n0_; have HB := n1_; clear n0_ n1_; (try clear hb); (try clear hb2); (try clear hk); (try clear hi); have tkA3 : True := trivial) | (go_at_call 14; clear tkA3; (with_reducible refine (span_Plain.calls _ _ y148 t152 _ ?side1 ?side2 A3.out).mono ?_); (case side1 => repeat (first | exact (Kd.R_reads' HO150.out).2.2 | (with_reducible refine Kd.C_alloc ?_ _) | (with_reducible refine Kd.C_drewN ?_ _) | (with_reducible refine Kd.C_drew ?_))); (case side2 => exact (Kd.R_reads' HO150.out).2.1); rintro e w22 ⟨rfl, hb⟩; have n0_ := Aside0.mk (Kd.R_below (by (with_reducible repeat (first | apply Kd.R_alloc | apply Kd.R_drewN | apply Kd.R_drew)); exact HO150.out) hb); have n1_ := Aside0.mk (below_step (by repeat (first | (with_reducible first | exact HB.out | apply below_alloc | apply pw_below_drewN | apply below_drew1) | exact HB.out)) hb); clear HO150; clear HB; have HO150 := n0_; have HB := n1_; clear n0_ n1_; (try clear hb); (try clear hb2); (try clear hk); (try clear hi); have tkA5 : True := trivial) | (go_at_call 15; clear tkA5; (with_reducible refine (span_Lines.calls _ _ y148 t153 _ ?side1 ?side2 A5.out).mono ?_); (case side1 => repeat (first | exact (Kd.R_reads' HO150.out).2.2 | (with_reducible refine Kd.C_alloc ?_ _) | (with_reducible refine Kd.C_drewN ?_ _) | (with_reducible refine Kd.C_drew ?_))); (case side2 => exact (Kd.R_reads' HO150.out).2.1); rintro e w23 ⟨rfl, hb⟩; have n0_ := Aside0.mk (Kd.R_below (by (with_reducible repeat (first | apply Kd.R_alloc | apply Kd.R_drewN | apply Kd.R_drew)); exact HO150.out) hb); have n1_ := Aside0.mk (below_step (by repeat (first | (with_reducible first | exact HB.out | apply below_alloc | apply pw_below_drewN | apply below_drew1) | exact HB.out)) hb); clear HO150; clear HB; have HO150 := n0_; have HB := n1_; clear n0_ n1_; (try clear hb); (try clear hb2); (try clear hk); (try clear hi)))
    go_ret
    exact ⟨by first | rfl | (simp [errW_none, errW_some] <;> rfl) | (simp [*, errW_none, errW_some] <;> rfl), by repeat (first | (with_reducible first | exact HB.out | apply below_alloc | apply pw_below_drewN | apply below_drew1) | exact HB.out)⟩
  ·
   rw [if_neg c4] at H
   have c4b0 : (t152.toList == ([97, 32, 98] : List UInt8)) = false := beq_eq_false_iff_ne.mpr c4
   have c4b1 : (t152.toList != ([97, 32, 98] : List UInt8)) = true := bne_iff_ne.mpr c4
   obtain rfl := Option.some.inj H
   go_enter Tryd.func9, Tryd.ntmps9
   go_wp2_with (first | ((with_reducible refine gate_dst (N := 3) rfl ?_); (try (refine gate_guard (by rfl) ?_; dsimp only)); refine Kd.R_lit k30 _ 30 ?hg (N := 3) ?hd (xs := ([(⟨1, (⟨#[97, 32, 98]⟩ : ByteArray), ([] : List (S30))⟩ : S30)] : List (S30))) (inner := [.int .i64 1, .string (⟨#[97, 32, 98]⟩ : ByteArray), .slice none 0 0]) (ok := fun _ => True) (okp := fun _ => True) ?hr ?hp (fun _ hk => hk) trivial (Below.refl _ _) (Nat.le_refl _) (by simp) ?_; (case hd => rfl); (case hg => rfl); (case hr => first | (go_simp; done) | (go_simp; rfl)); (case hp => exact (Reps.c3 (show Kd.M k30 _ _ _ (⟨1, (⟨#[97, 32, 98]⟩ : ByteArray), ([] : List (S30))⟩ : S30) [.int .i64 1, .string (⟨#[97, 32, 98]⟩ : ByteArray), .slice none 0 0] from (k30_mkM _ _ _ (⟨1, (⟨#[97, 32, 98]⟩ : ByteArray), ([] : List (S30))⟩ : S30) (Kd.R_nil _ _ _ _ _))) (Reps.none _ _))); intro v149 w24 ho25 hb hg_ hnew_; clear hg_ hnew_; (first | rw [← Ny148.out] at ho25 | (simp only [Int.reduceToNat] at ho25; rw [← Ny148.out] at ho25)); have n0_ := Aside0.mk (Kd.R_lower ho25 (below_size (by repeat (first | (with_reducible first | exact HB.out | apply below_alloc | apply pw_below_drewN | apply below_drew1) | exact HB.out)))); have n1_ := Aside0.mk (below_step (by repeat (first | (with_reducible first | exact HB.out | apply below_alloc | apply pw_below_drewN | apply below_drew1) | exact HB.out)) hb); clear HB; have HO150 := n0_; have HB := n1_; clear n0_ n1_; clear hb ho25; obtain ⟨Ao26, co26, eo26⟩ := Kd.R_slice HO150.out; subst eo26) | ((with_reducible refine gate_callee (f := 12) rfl ?_); refine goesL_ (some 5) rfl rfl Tryd.func12 (by kernel_rfl) rfl #[.slice Ao26 y148.length co26] rfl (by (try simp only [List.map_toArray, List.map_cons, List.map_nil]); first | done | rfl | (simp only [List.length_drop, List.length_take]; rfl)) ?_; (with_reducible refine (span_Right.calls k _ _ y148 true _ ?side3 ?side1 ?side2 A1.out).mono ?_); (case side1 => repeat (first | exact (Kd.R_reads' HO150.out).2.2 | (with_reducible refine Kd.C_alloc ?_ _) | (with_reducible refine Kd.C_drewN ?_ _) | (with_reducible refine Kd.C_drew ?_))); (case side2 => exact (Kd.R_reads' HO150.out).2.1); (case side3 => first | exact HT.out | exact Tabs.at HT.out (by repeat (first | (with_reducible first | exact HB.out | apply below_alloc | apply pw_below_drewN | apply below_drew1) | exact HB.out))); rintro e w27 ⟨rfl, hb⟩; refine ⟨_, rfl, ?_⟩; have n0_ := Aside0.mk (Kd.R_below (by (with_reducible repeat (first | apply Kd.R_alloc | apply Kd.R_drewN | apply Kd.R_drew)); exact HO150.out) hb); have n1_ := Aside0.mk (below_step (by repeat (first | (with_reducible first | exact HB.out | apply below_alloc | apply pw_below_drewN | apply below_drew1) | exact HB.out)) hb); clear HO150; clear HB; have HO150 := n0_; have HB := n1_; clear n0_ n1_; (try clear hb); (try clear hb2); (try clear hk); (try clear hi); have tkA3 : True := trivial) | (go_at_call 14; clear tkA3; (with_reducible refine (span_Plain.calls _ _ y148 t152 _ ?side1 ?side2 A3.out).mono ?_); (case side1 => repeat (first | exact (Kd.R_reads' HO150.out).2.2 | (with_reducible refine Kd.C_alloc ?_ _) | (with_reducible refine Kd.C_drewN ?_ _) | (with_reducible refine Kd.C_drew ?_))); (case side2 => exact (Kd.R_reads' HO150.out).2.1); rintro e w28 ⟨rfl, hb⟩; have n0_ := Aside0.mk (Kd.R_below (by (with_reducible repeat (first | apply Kd.R_alloc | apply Kd.R_drewN | apply Kd.R_drew)); exact HO150.out) hb); have n1_ := Aside0.mk (below_step (by repeat (first | (with_reducible first | exact HB.out | apply below_alloc | apply pw_below_drewN | apply below_drew1) | exact HB.out)) hb); clear HO150; clear HB; have HO150 := n0_; have HB := n1_; clear n0_ n1_; (try clear hb); (try clear hb2); (try clear hk); (try clear hi)))
   go_ret
   exact ⟨by first | rfl | (simp [errW_none, errW_some] <;> rfl) | (simp [*, errW_none, errW_some] <;> rfl), by repeat (first | (with_reducible first | exact HB.out | apply below_alloc | apply pw_below_drewN | apply below_drew1) | exact HB.out)⟩
 ·
  replace c2 := Bool.eq_false_iff.mpr c2
  subst c2
  have H1 : (some false) = some r := by rw [if_neg (show ¬ (false = true) by decide)] at H; exact H
  clear H
  have H := H1
  clear H1
  obtain rfl := Option.some.inj H
  go_enter Tryd.func9, Tryd.ntmps9
  go_wp2_with (first | ((with_reducible refine gate_dst (N := 3) rfl ?_); (try (refine gate_guard (by rfl) ?_; dsimp only)); refine Kd.R_lit k30 _ 30 ?hg (N := 3) ?hd (xs := ([(⟨1, (⟨#[97, 32, 98]⟩ : ByteArray), ([] : List (S30))⟩ : S30)] : List (S30))) (inner := [.int .i64 1, .string (⟨#[97, 32, 98]⟩ : ByteArray), .slice none 0 0]) (ok := fun _ => True) (okp := fun _ => True) ?hr ?hp (fun _ hk => hk) trivial (Below.refl _ _) (Nat.le_refl _) (by simp) ?_; (case hd => rfl); (case hg => rfl); (case hr => first | (go_simp; done) | (go_simp; rfl)); (case hp => exact (Reps.c3 (show Kd.M k30 _ _ _ (⟨1, (⟨#[97, 32, 98]⟩ : ByteArray), ([] : List (S30))⟩ : S30) [.int .i64 1, .string (⟨#[97, 32, 98]⟩ : ByteArray), .slice none 0 0] from (k30_mkM _ _ _ (⟨1, (⟨#[97, 32, 98]⟩ : ByteArray), ([] : List (S30))⟩ : S30) (Kd.R_nil _ _ _ _ _))) (Reps.none _ _))); intro v149 w29 ho30 hb hg_ hnew_; clear hg_ hnew_; (first | rw [← Ny148.out] at ho30 | (simp only [Int.reduceToNat] at ho30; rw [← Ny148.out] at ho30)); have n0_ := Aside0.mk (Kd.R_lower ho30 (below_size (by repeat (first | (with_reducible first | exact HB.out | apply below_alloc | apply pw_below_drewN | apply below_drew1) | exact HB.out)))); have n1_ := Aside0.mk (below_step (by repeat (first | (with_reducible first | exact HB.out | apply below_alloc | apply pw_below_drewN | apply below_drew1) | exact HB.out)) hb); clear HB; have HO150 := n0_; have HB := n1_; clear n0_ n1_; clear hb ho30; obtain ⟨Ao31, co31, eo31⟩ := Kd.R_slice HO150.out; subst eo31) | ((with_reducible refine gate_callee (f := 12) rfl ?_); refine goesL_ (some 5) rfl rfl Tryd.func12 (by kernel_rfl) rfl #[.slice Ao31 y148.length co31] rfl (by (try simp only [List.map_toArray, List.map_cons, List.map_nil]); first | done | rfl | (simp only [List.length_drop, List.length_take]; rfl)) ?_; (with_reducible refine (span_Right.calls k _ _ y148 false _ ?side3 ?side1 ?side2 A1.out).mono ?_); (case side1 => repeat (first | exact (Kd.R_reads' HO150.out).2.2 | (with_reducible refine Kd.C_alloc ?_ _) | (with_reducible refine Kd.C_drewN ?_ _) | (with_reducible refine Kd.C_drew ?_))); (case side2 => exact (Kd.R_reads' HO150.out).2.1); (case side3 => first | exact HT.out | exact Tabs.at HT.out (by repeat (first | (with_reducible first | exact HB.out | apply below_alloc | apply pw_below_drewN | apply below_drew1) | exact HB.out))); rintro e w32 ⟨rfl, hb⟩; refine ⟨_, rfl, ?_⟩; have n0_ := Aside0.mk (Kd.R_below (by (with_reducible repeat (first | apply Kd.R_alloc | apply Kd.R_drewN | apply Kd.R_drew)); exact HO150.out) hb); have n1_ := Aside0.mk (below_step (by repeat (first | (with_reducible first | exact HB.out | apply below_alloc | apply pw_below_drewN | apply below_drew1) | exact HB.out)) hb); clear HO150; clear HB; have HO150 := n0_; have HB := n1_; clear n0_ n1_; (try clear hb); (try clear hb2); (try clear hk); (try clear hi)))
  go_ret
  exact ⟨by first | rfl | (simp [errW_none, errW_some] <;> rfl) | (simp [*, errW_none, errW_some] <;> rfl), by repeat (first | (with_reducible first | exact HB.out | apply below_alloc | apply pw_below_drewN | apply below_drew1) | exact HB.out)⟩

/-! ### emendationref07_spend: function 34 -/
mutual
def emendationref07_spend.l0 : Nat → List (S30) → Int → Int → Int → Int → Int → Option (Int)
 | 0, _, _, _, _, _, _ => none
 | k + 1, x0, x1, x2, x7, x10, x11 => if x11 < x10 then (if x1 = 0 then (some (wrap64 (x7 + 1000000))) else (if x7 ≥ x2 then (some (wrap64 (x7 + 1000000))) else (if 0 ≤ x11 then (if x11 < (x0.length : Int) then ((emendationref07_spend.f k ((rd_T30 x0 x11).f2) (wrap64 (x1 - 1)) (wrap64 (x2 - (wrap64 ((wrap64 (x7 + 1)) + (((rd_T30 x0 x11).f1).size : Int)))))).bind fun t160 => (emendationref07_spend.l0 k x0 x1 x2 (wrap64 ((wrap64 ((wrap64 (x7 + 1)) + (((rd_T30 x0 x11).f1).size : Int))) + t160)) x10 (wrap64 (x11 + 1)))) else (none)) else (none)))) else (some x7)
def emendationref07_spend.f : Nat → List (S30) → Int → Int → Option (Int)
 | 0, _, _, _ => none
 | k + 1, l0, a1, a2 => emendationref07_spend.l0 k l0 a1 a2 0 (l0.length : Int) 0
end
set_option maxHeartbeats 8000000 in
set_option maxRecDepth 100000 in
theorem emendationref07_spend.calls (k : Nat) : ∀ (A0 : Option Addr) (c0 : Nat) (l0 : List (S30)) (a1 : Int) (a2 : Int) (r : Int) (w : World) (hr0 : Kd.C k30 w A0 l0.length l0) (hc0 : l0.length ≤ c0) (h : emendationref07_spend.f k l0 a1 a2 = some r),
  Calls Tryd.prog 34 #[.slice A0 l0.length c0, .int .i64 a1, .int .i64 a2] w fun e w' => e = .returned (.int .i64 r) ∧ Drawn0 w w' := by
 induction k using Nat.strongRecOn with
 | _ k ih =>
 intro A0 c0 l0 a1 a2 r w hr0 hc0 h
 cases k with
 | zero => exact absurd h (by simp [emendationref07_spend.f])
 | succ k =>
 simp only [emendationref07_spend.f] at h
 have HR0 := Aside0.mk hr0
 have HC0 := Aside0.mk hc0
 clear hr0 hc0
 have H : (emendationref07_spend.l0 k l0 a1 a2 0 (l0.length : Int) 0) = some r := h
 clear h
 have H' := Aside0.mk H
 clear H
 go_enter Tryd.func34, Tryd.ntmps34
 go_wp2
 go_loopg [7, 11] k (fun kq v7 v11 w' => ∃ (x7_1 : Int) (x11_1 : Int), v7 = .int .i64 x7_1 ∧ v11 = .int .i64 x11_1 ∧ Aside0 (emendationref07_spend.l0 kq l0 a1 a2 x7_1 (l0.length : Int) x11_1 = some r) ∧ Aside0 (kq ≤ k) ∧ Drawn0 w w')
 case atStart => exact ⟨(0), (0), (by first | rfl | (simp; done) | (simp [*]; done) | (simp [bne, beq_nil_E]; done)), (by first | rfl | (simp; done) | (simp [*]; done) | (simp [bne, beq_nil_E]; done)), H', ⟨Nat.le_refl _⟩, by repeat (first | exact Drawn0.refl _ | apply Drawn0.step)⟩
 case round =>
  clear H'
  try clear p2
  try clear c3
  obtain ⟨x7_1, x11_1, rfl, rfl, HA, HK1, ⟨m1, rfl⟩⟩ := hrel
  cases gk with
  | zero => exact absurd HA.out (by simp [emendationref07_spend.l0])
  | succ k1 =>
   have H := HA.out
   clear HA
   simp only [emendationref07_spend.l0] at H
   by_cases c4 : x11_1 < (l0.length : Int)
   ·
    rw [if_pos c4] at H
    have c4b0 : decide (x11_1 < (l0.length : Int)) = true := decide_eq_true c4
    clear c4
    by_cases c5 : a1 = 0
    ·
     rw [if_pos c5] at H
     have c5b0 : (a1 == 0) = true := beq_iff_eq.mpr c5
     have c5b1 : (a1 != 0) = false := bne_eq_false_iff_eq.mpr c5
     clear c5
     obtain rfl := Option.some.inj H
     go_wp2
     go_ret
     exact ⟨by first | rfl | (simp; done) | (simp [*]; done) | (simp [bne, beq_nil_E]; done), by repeat (first | exact Drawn0.refl _ | apply Drawn0.step)⟩
    ·
     rw [if_neg c5] at H
     have c5b0 : (a1 == 0) = false := beq_eq_false_iff_ne.mpr c5
     have c5b1 : (a1 != 0) = true := bne_iff_ne.mpr c5
     by_cases c6 : x7_1 ≥ a2
     ·
      rw [if_pos c6] at H
      have c6b0 : decide (a2 ≤ x7_1) = true := decide_eq_true c6
      clear c6
      obtain rfl := Option.some.inj H
      go_wp2
      go_ret
      exact ⟨by first | rfl | (simp; done) | (simp [*]; done) | (simp [bne, beq_nil_E]; done), by repeat (first | exact Drawn0.refl _ | apply Drawn0.step)⟩
     ·
      rw [if_neg c6] at H
      have c6b0 : decide (a2 ≤ x7_1) = false := decide_eq_false c6
      clear c6
      by_cases c7 : 0 ≤ x11_1
      ·
       rw [if_pos c7] at H
       have c7b0 : decide (0 ≤ x11_1) = true := decide_eq_true c7
       clear c7
       by_cases c8 : x11_1 < (l0.length : Int)
       ·
        rw [if_pos c8] at H
        have c8b0 : decide (x11_1 < (l0.length : Int)) = true := decide_eq_true c8
        clear c8
        replace H := Option.bind_eq_some_iff.mp H
        obtain ⟨t160, A90, H⟩ := H
        replace H : (emendationref07_spend.l0 k1 l0 a1 a2 (wrap64 ((wrap64 ((wrap64 (x7_1 + 1)) + (((rd_T30 l0 x11_1).f1).size : Int))) + t160)) (l0.length : Int) (wrap64 (x11_1 + 1))) = some r := H
        have A9 := Aside0.mk A90
        clear A90
        have H' := Aside0.mk H
        clear H
        have p158 : 0 ≤ (x11_1 : Int) := of_decide_eq_true (by first | (with_reducible assumption) | assumption)
        have q158 : x11_1 < (l0.length : Int) := of_decide_eq_true (by first | (with_reducible assumption) | assumption)
        obtain ⟨ad158, A158_2, c158_2, e158, hx158_0, hx158_1, hx158_2, hl158_2, hi158_2⟩ := at_T30 HR0.out x11_1 p158 q158
        cases e158
        have HR158_2 := Aside0.mk hi158_2
        have HC158_2 := Aside0.mk hl158_2
        clear hi158_2 hl158_2
        replace p158 := eq_true p158
        replace q158 := eq_true q158
        have p159 : 0 ≤ (x11_1 : Int) := of_decide_eq_true (by first | (with_reducible assumption) | assumption)
        have q159 : x11_1 < (l0.length : Int) := of_decide_eq_true (by first | (with_reducible assumption) | assumption)
        obtain ⟨ad159, A159_2, c159_2, e159, hx159_0, hx159_1, hx159_2, hl159_2, hi159_2⟩ := at_T30 HR0.out x11_1 p159 q159
        obtain rfl : ad158 = ad159 := (by injection e159)
        have HR159_2 := Aside0.mk hi159_2
        have HC159_2 := Aside0.mk hl159_2
        clear hi159_2 hl159_2
        replace p159 := eq_true p159
        replace q159 := eq_true q159
        have ea_ := Option.some.inj (hx158_2.symm.trans hx159_2)
        injection ea_ with ea_ en_ ec_
        subst ea_
        subst ec_
        clear en_
        go_wp2_with (first | ((with_reducible refine gate_callee (f := 34) rfl ?_); refine goesL_ (some 43) rfl rfl Tryd.func34 (by kernel_rfl) rfl #[.slice A158_2 ((rd_T30 l0 x11_1).f2).length c158_2, .int .i64 (wrap64 (a1 - 1)), .int .i64 (wrap64 (a2 - (wrap64 ((wrap64 (x7_1 + 1)) + (((rd_T30 l0 x11_1).f1).size : Int)))))] rfl (by (try simp only [List.map_toArray, List.map_cons, List.map_nil]); first | done | rfl | (simp only [List.length_drop, List.length_take]; rfl)) ?_; (with_reducible refine (ih k1 (by have := HK1.out; omega) _ _ ((rd_T30 l0 x11_1).f2) (wrap64 (a1 - 1)) (wrap64 (a2 - (wrap64 ((wrap64 (x7_1 + 1)) + (((rd_T30 l0 x11_1).f1).size : Int))))) t160 _ ?side1 ?side2 A9.out).mono ?_); (case side1 => repeat (first | exact HR159_2.out | (with_reducible refine Kd.C_alloc ?_ _) | (with_reducible refine Kd.C_drewN ?_ _) | (with_reducible refine Kd.C_drew ?_))); (case side2 => exact HC159_2.out); rintro e w' ⟨rfl, ⟨nd, rfl⟩⟩; refine ⟨_, rfl, ?_⟩))
        go_roundg k1
        case measure => have := HK1.out; omega
        case rel => exact ⟨(wrap64 ((wrap64 ((wrap64 (x7_1 + 1)) + (((rd_T30 l0 x11_1).f1).size : Int))) + t160)), (wrap64 (x11_1 + 1)), (by first | rfl | (simp; done) | (simp [*]; done) | (simp [bne, beq_nil_E]; done)), (by first | rfl | (simp; done) | (simp [*]; done) | (simp [bne, beq_nil_E]; done)), H', ⟨by have := HK1.out; omega⟩, by repeat (first | exact Drawn0.refl _ | apply Drawn0.step)⟩
       ·
        rw [if_neg c8] at H
        exact absurd H (by simp)
      ·
       rw [if_neg c7] at H
       exact absurd H (by simp)
   ·
    rw [if_neg c4] at H
    have c4b0 : decide (x11_1 < (l0.length : Int)) = false := decide_eq_false c4
    clear c4
    obtain rfl := Option.some.inj H
    go_wp2
    go_ret
    exact ⟨by first | rfl | (simp; done) | (simp [*]; done) | (simp [bne, beq_nil_E]; done), by repeat (first | exact Drawn0.refl _ | apply Drawn0.step)⟩

/-! ### emendationref07_Size: function 21 -/
def emendationref07_Size.f (k : Nat) (l0 : List (S30)) (a1 : Int) : Option (Int) := (emendationref07_spend.f k l0 a1 5000).bind fun t161 => (some t161)
set_option maxHeartbeats 8000000 in
set_option maxRecDepth 100000 in
theorem emendationref07_Size.calls (k : Nat) (A0 : Option Addr) (c0 : Nat) (l0 : List (S30)) (a1 : Int) (r : Int) (w : World) (hr0 : Kd.C k30 w A0 l0.length l0) (hc0 : l0.length ≤ c0) (h : emendationref07_Size.f k l0 a1 = some r) :
  Calls Tryd.prog 21 #[.slice A0 l0.length c0, .int .i64 a1] w fun e w' => e = .returned (.int .i64 r) ∧ Drawn0 w w' := by
 have HR0 := Aside0.mk hr0
 have HC0 := Aside0.mk hc0
 clear hr0 hc0
 have H : ((emendationref07_spend.f k l0 a1 5000).bind fun t161 => (some t161)) = some r := h
 clear h
 replace H := Option.bind_eq_some_iff.mp H
 obtain ⟨t161, A30, H⟩ := H
 replace H : (some t161) = some r := H
 have A3 := Aside0.mk A30
 clear A30
 obtain rfl := Option.some.inj H
 go_enter Tryd.func21, Tryd.ntmps21
 go_wp2_with (first | ((with_reducible refine gate_callee (f := 34) rfl ?_); refine goesL_ (some 7) rfl rfl Tryd.func34 (by kernel_rfl) rfl #[.slice A0 l0.length c0, .int .i64 a1, .int .i64 5000] rfl (by (try simp only [List.map_toArray, List.map_cons, List.map_nil]); first | done | rfl | (simp only [List.length_drop, List.length_take]; rfl)) ?_; (with_reducible refine (emendationref07_spend.calls k _ _ l0 a1 5000 t161 _ ?side1 ?side2 A3.out).mono ?_); (case side1 => repeat (first | exact HR0.out | (with_reducible refine Kd.C_alloc ?_ _) | (with_reducible refine Kd.C_drewN ?_ _) | (with_reducible refine Kd.C_drew ?_))); (case side2 => exact HC0.out); rintro e w' ⟨rfl, ⟨nd, rfl⟩⟩; refine ⟨_, rfl, ?_⟩))
 go_ret
 exact ⟨by first | rfl | (simp; done) | (simp [*]; done) | (simp [bne, beq_nil_E]; done), by repeat (first | exact Drawn0.refl _ | apply Drawn0.step)⟩

/-! ### emendationlaw07_few: function 10 -/
def emendationlaw07_few.f (k : Nat) (l0 : List (S30)) : Option (Bool) := (emendationref07_Size.f k l0 30).bind fun t162 => (some (decide (t162 < 3000)))
set_option maxHeartbeats 8000000 in
set_option maxRecDepth 100000 in
theorem emendationlaw07_few.calls (k : Nat) (A0 : Option Addr) (c0 : Nat) (l0 : List (S30)) (r : Bool) (w : World) (hr0 : Kd.C k30 w A0 l0.length l0) (hc0 : l0.length ≤ c0) (h : emendationlaw07_few.f k l0 = some r) :
  Calls Tryd.prog 10 #[.slice A0 l0.length c0] w fun e w' => e = .returned (.bool r) ∧ Drawn0 w w' := by
 have HR0 := Aside0.mk hr0
 have HC0 := Aside0.mk hc0
 clear hr0 hc0
 have H : ((emendationref07_Size.f k l0 30).bind fun t162 => (some (decide (t162 < 3000)))) = some r := h
 clear h
 replace H := Option.bind_eq_some_iff.mp H
 obtain ⟨t162, A20, H⟩ := H
 replace H : (some (decide (t162 < 3000))) = some r := H
 have A2 := Aside0.mk A20
 clear A20
 obtain rfl := Option.some.inj H
 go_enter Tryd.func10, Tryd.ntmps10
 go_wp2_with (first | ((with_reducible refine gate_callee (f := 21) rfl ?_); refine goesL_ (some 4) rfl rfl Tryd.func21 (by kernel_rfl) rfl #[.slice A0 l0.length c0, .int .i64 30] rfl (by (try simp only [List.map_toArray, List.map_cons, List.map_nil]); first | done | rfl | (simp only [List.length_drop, List.length_take]; rfl)) ?_; (with_reducible refine (emendationref07_Size.calls k _ _ l0 30 t162 _ ?side1 ?side2 A2.out).mono ?_); (case side1 => repeat (first | exact HR0.out | (with_reducible refine Kd.C_alloc ?_ _) | (with_reducible refine Kd.C_drewN ?_ _) | (with_reducible refine Kd.C_drew ?_))); (case side2 => exact HC0.out); rintro e w' ⟨rfl, ⟨nd, rfl⟩⟩; refine ⟨_, rfl, ?_⟩))
 go_ret
 exact ⟨by first | rfl | (simp; done) | (simp [*]; done) | (simp [bne, beq_nil_E]; done), by repeat (first | exact Drawn0.refl _ | apply Drawn0.step)⟩

/-! ### emendationref07_Plain: function 11 -/
mutual
def emendationref07_Plain.l0 : Nat → List (S30) → ByteArray → Int → Int → Option (ByteArray)
 | 0, _, _, _, _ => none
 | k + 1, x0, x3, x6, x7 => if x7 < x6 then (if 0 ≤ x7 then (if x7 < (x0.length : Int) then (if ((rd_T30 x0 x7).f0) = 1 then (if x3.size + ((rd_T30 x0 x7).f1).size ≤ 9223372036854775807 then ((emendationref07_Plain.f k ((rd_T30 x0 x7).f2)).bind fun t166 => (if (x3 ++ ((rd_T30 x0 x7).f1)).size + t166.size ≤ 9223372036854775807 then (emendationref07_Plain.l0 k x0 ((x3 ++ ((rd_T30 x0 x7).f1)) ++ t166) x6 (wrap64 (x7 + 1))) else (none))) else (none)) else (if ((rd_T30 x0 x7).f0) = 2 then (if x3.size + ((rd_T30 x0 x7).f1).size ≤ 9223372036854775807 then ((emendationref07_Plain.f k ((rd_T30 x0 x7).f2)).bind fun t170 => (if (x3 ++ ((rd_T30 x0 x7).f1)).size + t170.size ≤ 9223372036854775807 then (emendationref07_Plain.l0 k x0 ((x3 ++ ((rd_T30 x0 x7).f1)) ++ t170) x6 (wrap64 (x7 + 1))) else (none))) else (none)) else ((emendationref07_Plain.f k ((rd_T30 x0 x7).f2)).bind fun t172 => (if x3.size + t172.size ≤ 9223372036854775807 then (emendationref07_Plain.l0 k x0 (x3 ++ t172) x6 (wrap64 (x7 + 1))) else (none))))) else (none)) else (none)) else (some x3)
def emendationref07_Plain.f : Nat → List (S30) → Option (ByteArray)
 | 0, _ => none
 | k + 1, l0 => emendationref07_Plain.l0 k l0 (⟨#[]⟩ : ByteArray) (l0.length : Int) 0
end
set_option maxHeartbeats 8000000 in
set_option maxRecDepth 100000 in
theorem emendationref07_Plain.calls (k : Nat) : ∀ (A0 : Option Addr) (c0 : Nat) (l0 : List (S30)) (r : ByteArray) (w : World) (hr0 : Kd.C k30 w A0 l0.length l0) (hc0 : l0.length ≤ c0) (h : emendationref07_Plain.f k l0 = some r),
  Calls Tryd.prog 11 #[.slice A0 l0.length c0] w fun e w' => e = .returned (.string r) ∧ Drawn0 w w' := by
 induction k using Nat.strongRecOn with
 | _ k ih =>
 intro A0 c0 l0 r w hr0 hc0 h
 cases k with
 | zero => exact absurd h (by simp [emendationref07_Plain.f])
 | succ k =>
 simp only [emendationref07_Plain.f] at h
 have HR0 := Aside0.mk hr0
 have HC0 := Aside0.mk hc0
 clear hr0 hc0
 have H : (emendationref07_Plain.l0 k l0 (⟨#[]⟩ : ByteArray) (l0.length : Int) 0) = some r := h
 clear h
 have H' := Aside0.mk H
 clear H
 go_enter Tryd.func11, Tryd.ntmps11
 go_wp2
 go_loopg [3, 7] k (fun kq v3 v7 w' => ∃ (x3_1 : ByteArray) (x7_1 : Int), v3 = .string x3_1 ∧ v7 = .int .i64 x7_1 ∧ Aside0 (emendationref07_Plain.l0 kq l0 x3_1 (l0.length : Int) x7_1 = some r) ∧ Aside0 (kq ≤ k) ∧ Drawn0 w w')
 case atStart => exact ⟨((⟨#[]⟩ : ByteArray)), (0), (by first | rfl | (simp; done) | (simp [*]; done) | (simp [bne, beq_nil_E]; done)), (by first | rfl | (simp; done) | (simp [*]; done) | (simp [bne, beq_nil_E]; done)), H', ⟨Nat.le_refl _⟩, by repeat (first | exact Drawn0.refl _ | apply Drawn0.step)⟩
 case round =>
  clear H'
  try clear c1
  obtain ⟨x3_1, x7_1, rfl, rfl, HA, HK1, ⟨m1, rfl⟩⟩ := hrel
  cases gk with
  | zero => exact absurd HA.out (by simp [emendationref07_Plain.l0])
  | succ k1 =>
   have H := HA.out
   clear HA
   simp only [emendationref07_Plain.l0] at H
   by_cases c2 : x7_1 < (l0.length : Int)
   ·
    rw [if_pos c2] at H
    have c2b0 : decide (x7_1 < (l0.length : Int)) = true := decide_eq_true c2
    clear c2
    by_cases c3 : 0 ≤ x7_1
    ·
     rw [if_pos c3] at H
     have c3b0 : decide (0 ≤ x7_1) = true := decide_eq_true c3
     clear c3
     by_cases c4 : x7_1 < (l0.length : Int)
     ·
      rw [if_pos c4] at H
      have c4b0 : decide (x7_1 < (l0.length : Int)) = true := decide_eq_true c4
      clear c4
      by_cases c5 : ((rd_T30 l0 x7_1).f0) = 1
      ·
       rw [if_pos c5] at H
       have c5b0 : (((rd_T30 l0 x7_1).f0) == 1) = true := beq_iff_eq.mpr c5
       have c5b1 : (((rd_T30 l0 x7_1).f0) != 1) = false := bne_eq_false_iff_eq.mpr c5
       clear c5
       by_cases c6 : x3_1.size + ((rd_T30 l0 x7_1).f1).size ≤ 9223372036854775807
       ·
        rw [if_pos c6] at H
        have c6b0 := eq_true c6
        have c6b1 : decide (x3_1.size + ((rd_T30 l0 x7_1).f1).size ≤ 9223372036854775807) = true := decide_eq_true c6
        try have c6b2 : (9223372036854775807 < x3_1.size + ((rd_T30 l0 x7_1).f1).size) = False := eq_false (Nat.not_lt.2 c6)
        replace H := Option.bind_eq_some_iff.mp H
        obtain ⟨t166, A70, H⟩ := H
        replace H : (if (x3_1 ++ ((rd_T30 l0 x7_1).f1)).size + t166.size ≤ 9223372036854775807 then (emendationref07_Plain.l0 k1 l0 ((x3_1 ++ ((rd_T30 l0 x7_1).f1)) ++ t166) (l0.length : Int) (wrap64 (x7_1 + 1))) else (none)) = some r := H
        have A7 := Aside0.mk A70
        clear A70
        by_cases c8 : (x3_1 ++ ((rd_T30 l0 x7_1).f1)).size + t166.size ≤ 9223372036854775807
        ·
         rw [if_pos c8] at H
         have c8b0 := eq_true c8
         have c8b1 : decide ((x3_1 ++ ((rd_T30 l0 x7_1).f1)).size + t166.size ≤ 9223372036854775807) = true := decide_eq_true c8
         try have c8b2 : (9223372036854775807 < (x3_1 ++ ((rd_T30 l0 x7_1).f1)).size + t166.size) = False := eq_false (Nat.not_lt.2 c8)
         (try (have c8s := c8; simp only [ByteArray.size_append, lit_size, List.length_cons, List.length_nil, Nat.zero_add, Nat.reduceAdd] at c8s; have c8s0 := eq_true c8s; have c8s1 := decide_eq_true c8s; have c8s2 := eq_false (Nat.not_lt.2 c8s); clear c8s))
         have H' := Aside0.mk H
         clear H
         have p163 : 0 ≤ (x7_1 : Int) := of_decide_eq_true (by first | (with_reducible assumption) | assumption)
         have q163 : x7_1 < (l0.length : Int) := of_decide_eq_true (by first | (with_reducible assumption) | assumption)
         obtain ⟨ad163, A163_2, c163_2, e163, hx163_0, hx163_1, hx163_2, hl163_2, hi163_2⟩ := at_T30 HR0.out x7_1 p163 q163
         cases e163
         have HR163_2 := Aside0.mk hi163_2
         have HC163_2 := Aside0.mk hl163_2
         clear hi163_2 hl163_2
         replace p163 := eq_true p163
         replace q163 := eq_true q163
         have p164 : 0 ≤ (x7_1 : Int) := of_decide_eq_true (by first | (with_reducible assumption) | assumption)
         have q164 : x7_1 < (l0.length : Int) := of_decide_eq_true (by first | (with_reducible assumption) | assumption)
         obtain ⟨ad164, A164_2, c164_2, e164, hx164_0, hx164_1, hx164_2, hl164_2, hi164_2⟩ := at_T30 HR0.out x7_1 p164 q164
         obtain rfl : ad163 = ad164 := (by injection e164)
         have HR164_2 := Aside0.mk hi164_2
         have HC164_2 := Aside0.mk hl164_2
         clear hi164_2 hl164_2
         replace p164 := eq_true p164
         replace q164 := eq_true q164
         have ea_ := Option.some.inj (hx163_2.symm.trans hx164_2)
         injection ea_ with ea_ en_ ec_
         subst ea_
         subst ec_
         clear en_
         have p165 : 0 ≤ (x7_1 : Int) := of_decide_eq_true (by first | (with_reducible assumption) | assumption)
         have q165 : x7_1 < (l0.length : Int) := of_decide_eq_true (by first | (with_reducible assumption) | assumption)
         obtain ⟨ad165, A165_2, c165_2, e165, hx165_0, hx165_1, hx165_2, hl165_2, hi165_2⟩ := at_T30 HR0.out x7_1 p165 q165
         obtain rfl : ad163 = ad165 := (by injection e165)
         have HR165_2 := Aside0.mk hi165_2
         have HC165_2 := Aside0.mk hl165_2
         clear hi165_2 hl165_2
         replace p165 := eq_true p165
         replace q165 := eq_true q165
         have ea_ := Option.some.inj (hx163_2.symm.trans hx165_2)
         injection ea_ with ea_ en_ ec_
         subst ea_
         subst ec_
         clear en_
         go_wp2_with (first | ((with_reducible refine gate_callee (f := 11) rfl ?_); refine goesL_ (some 37) rfl rfl Tryd.func11 (by kernel_rfl) rfl #[.slice A163_2 ((rd_T30 l0 x7_1).f2).length c163_2] rfl (by (try simp only [List.map_toArray, List.map_cons, List.map_nil]); first | done | rfl | (simp only [List.length_drop, List.length_take]; rfl)) ?_; (with_reducible refine (ih k1 (by have := HK1.out; omega) _ _ ((rd_T30 l0 x7_1).f2) t166 _ ?side1 ?side2 A7.out).mono ?_); (case side1 => repeat (first | exact HR165_2.out | (with_reducible refine Kd.C_alloc ?_ _) | (with_reducible refine Kd.C_drewN ?_ _) | (with_reducible refine Kd.C_drew ?_))); (case side2 => exact HC165_2.out); rintro e w' ⟨rfl, ⟨nd, rfl⟩⟩; refine ⟨_, rfl, ?_⟩))
         go_roundg k1
         case measure => have := HK1.out; omega
         case rel => exact ⟨((x3_1 ++ ((rd_T30 l0 x7_1).f1)) ++ t166), (wrap64 (x7_1 + 1)), (by first | rfl | (simp; done) | (simp [*]; done) | (simp [bne, beq_nil_E]; done)), (by first | rfl | (simp; done) | (simp [*]; done) | (simp [bne, beq_nil_E]; done)), H', ⟨by have := HK1.out; omega⟩, by repeat (first | exact Drawn0.refl _ | apply Drawn0.step)⟩
        ·
         rw [if_neg c8] at H
         exact absurd H (by simp)
       ·
        rw [if_neg c6] at H
        exact absurd H (by simp)
      ·
       rw [if_neg c5] at H
       have c5b0 : (((rd_T30 l0 x7_1).f0) == 1) = false := beq_eq_false_iff_ne.mpr c5
       have c5b1 : (((rd_T30 l0 x7_1).f0) != 1) = true := bne_iff_ne.mpr c5
       by_cases c9 : ((rd_T30 l0 x7_1).f0) = 2
       ·
        rw [if_pos c9] at H
        have c9b0 : (((rd_T30 l0 x7_1).f0) == 2) = true := beq_iff_eq.mpr c9
        have c9b1 : (((rd_T30 l0 x7_1).f0) != 2) = false := bne_eq_false_iff_eq.mpr c9
        clear c9
        by_cases c10 : x3_1.size + ((rd_T30 l0 x7_1).f1).size ≤ 9223372036854775807
        ·
         rw [if_pos c10] at H
         have c10b0 := eq_true c10
         have c10b1 : decide (x3_1.size + ((rd_T30 l0 x7_1).f1).size ≤ 9223372036854775807) = true := decide_eq_true c10
         try have c10b2 : (9223372036854775807 < x3_1.size + ((rd_T30 l0 x7_1).f1).size) = False := eq_false (Nat.not_lt.2 c10)
         replace H := Option.bind_eq_some_iff.mp H
         obtain ⟨t170, A110, H⟩ := H
         replace H : (if (x3_1 ++ ((rd_T30 l0 x7_1).f1)).size + t170.size ≤ 9223372036854775807 then (emendationref07_Plain.l0 k1 l0 ((x3_1 ++ ((rd_T30 l0 x7_1).f1)) ++ t170) (l0.length : Int) (wrap64 (x7_1 + 1))) else (none)) = some r := H
         have A11 := Aside0.mk A110
         clear A110
         by_cases c12 : (x3_1 ++ ((rd_T30 l0 x7_1).f1)).size + t170.size ≤ 9223372036854775807
         ·
          rw [if_pos c12] at H
          have c12b0 := eq_true c12
          have c12b1 : decide ((x3_1 ++ ((rd_T30 l0 x7_1).f1)).size + t170.size ≤ 9223372036854775807) = true := decide_eq_true c12
          try have c12b2 : (9223372036854775807 < (x3_1 ++ ((rd_T30 l0 x7_1).f1)).size + t170.size) = False := eq_false (Nat.not_lt.2 c12)
          (try (have c12s := c12; simp only [ByteArray.size_append, lit_size, List.length_cons, List.length_nil, Nat.zero_add, Nat.reduceAdd] at c12s; have c12s0 := eq_true c12s; have c12s1 := decide_eq_true c12s; have c12s2 := eq_false (Nat.not_lt.2 c12s); clear c12s))
          have H' := Aside0.mk H
          clear H
          have p163 : 0 ≤ (x7_1 : Int) := of_decide_eq_true (by first | (with_reducible assumption) | assumption)
          have q163 : x7_1 < (l0.length : Int) := of_decide_eq_true (by first | (with_reducible assumption) | assumption)
          obtain ⟨ad163, A163_2, c163_2, e163, hx163_0, hx163_1, hx163_2, hl163_2, hi163_2⟩ := at_T30 HR0.out x7_1 p163 q163
          cases e163
          have HR163_2 := Aside0.mk hi163_2
          have HC163_2 := Aside0.mk hl163_2
          clear hi163_2 hl163_2
          replace p163 := eq_true p163
          replace q163 := eq_true q163
          have p167 : 0 ≤ (x7_1 : Int) := of_decide_eq_true (by first | (with_reducible assumption) | assumption)
          have q167 : x7_1 < (l0.length : Int) := of_decide_eq_true (by first | (with_reducible assumption) | assumption)
          obtain ⟨ad167, A167_2, c167_2, e167, hx167_0, hx167_1, hx167_2, hl167_2, hi167_2⟩ := at_T30 HR0.out x7_1 p167 q167
          obtain rfl : ad163 = ad167 := (by injection e167)
          have HR167_2 := Aside0.mk hi167_2
          have HC167_2 := Aside0.mk hl167_2
          clear hi167_2 hl167_2
          replace p167 := eq_true p167
          replace q167 := eq_true q167
          have ea_ := Option.some.inj (hx163_2.symm.trans hx167_2)
          injection ea_ with ea_ en_ ec_
          subst ea_
          subst ec_
          clear en_
          have p168 : 0 ≤ (x7_1 : Int) := of_decide_eq_true (by first | (with_reducible assumption) | assumption)
          have q168 : x7_1 < (l0.length : Int) := of_decide_eq_true (by first | (with_reducible assumption) | assumption)
          obtain ⟨ad168, A168_2, c168_2, e168, hx168_0, hx168_1, hx168_2, hl168_2, hi168_2⟩ := at_T30 HR0.out x7_1 p168 q168
          obtain rfl : ad163 = ad168 := (by injection e168)
          have HR168_2 := Aside0.mk hi168_2
          have HC168_2 := Aside0.mk hl168_2
          clear hi168_2 hl168_2
          replace p168 := eq_true p168
          replace q168 := eq_true q168
          have ea_ := Option.some.inj (hx163_2.symm.trans hx168_2)
          injection ea_ with ea_ en_ ec_
          subst ea_
          subst ec_
          clear en_
          have p169 : 0 ≤ (x7_1 : Int) := of_decide_eq_true (by first | (with_reducible assumption) | assumption)
          have q169 : x7_1 < (l0.length : Int) := of_decide_eq_true (by first | (with_reducible assumption) | assumption)
          obtain ⟨ad169, A169_2, c169_2, e169, hx169_0, hx169_1, hx169_2, hl169_2, hi169_2⟩ := at_T30 HR0.out x7_1 p169 q169
          obtain rfl : ad163 = ad169 := (by injection e169)
          have HR169_2 := Aside0.mk hi169_2
          have HC169_2 := Aside0.mk hl169_2
          clear hi169_2 hl169_2
          replace p169 := eq_true p169
          replace q169 := eq_true q169
          have ea_ := Option.some.inj (hx163_2.symm.trans hx169_2)
          injection ea_ with ea_ en_ ec_
          subst ea_
          subst ec_
          clear en_
          go_wp2_with (first | ((with_reducible refine gate_callee (f := 11) rfl ?_); refine goesL_ (some 37) rfl rfl Tryd.func11 (by kernel_rfl) rfl #[.slice A163_2 ((rd_T30 l0 x7_1).f2).length c163_2] rfl (by (try simp only [List.map_toArray, List.map_cons, List.map_nil]); first | done | rfl | (simp only [List.length_drop, List.length_take]; rfl)) ?_; (with_reducible refine (ih k1 (by have := HK1.out; omega) _ _ ((rd_T30 l0 x7_1).f2) t170 _ ?side1 ?side2 A11.out).mono ?_); (case side1 => repeat (first | exact HR169_2.out | (with_reducible refine Kd.C_alloc ?_ _) | (with_reducible refine Kd.C_drewN ?_ _) | (with_reducible refine Kd.C_drew ?_))); (case side2 => exact HC169_2.out); rintro e w' ⟨rfl, ⟨nd, rfl⟩⟩; refine ⟨_, rfl, ?_⟩))
          go_roundg k1
          case measure => have := HK1.out; omega
          case rel => exact ⟨((x3_1 ++ ((rd_T30 l0 x7_1).f1)) ++ t170), (wrap64 (x7_1 + 1)), (by first | rfl | (simp; done) | (simp [*]; done) | (simp [bne, beq_nil_E]; done)), (by first | rfl | (simp; done) | (simp [*]; done) | (simp [bne, beq_nil_E]; done)), H', ⟨by have := HK1.out; omega⟩, by repeat (first | exact Drawn0.refl _ | apply Drawn0.step)⟩
         ·
          rw [if_neg c12] at H
          exact absurd H (by simp)
        ·
         rw [if_neg c10] at H
         exact absurd H (by simp)
       ·
        rw [if_neg c9] at H
        have c9b0 : (((rd_T30 l0 x7_1).f0) == 2) = false := beq_eq_false_iff_ne.mpr c9
        have c9b1 : (((rd_T30 l0 x7_1).f0) != 2) = true := bne_iff_ne.mpr c9
        replace H := Option.bind_eq_some_iff.mp H
        obtain ⟨t172, A130, H⟩ := H
        replace H : (if x3_1.size + t172.size ≤ 9223372036854775807 then (emendationref07_Plain.l0 k1 l0 (x3_1 ++ t172) (l0.length : Int) (wrap64 (x7_1 + 1))) else (none)) = some r := H
        have A13 := Aside0.mk A130
        clear A130
        by_cases c14 : x3_1.size + t172.size ≤ 9223372036854775807
        ·
         rw [if_pos c14] at H
         have c14b0 := eq_true c14
         have c14b1 : decide (x3_1.size + t172.size ≤ 9223372036854775807) = true := decide_eq_true c14
         try have c14b2 : (9223372036854775807 < x3_1.size + t172.size) = False := eq_false (Nat.not_lt.2 c14)
         have H' := Aside0.mk H
         clear H
         have p163 : 0 ≤ (x7_1 : Int) := of_decide_eq_true (by first | (with_reducible assumption) | assumption)
         have q163 : x7_1 < (l0.length : Int) := of_decide_eq_true (by first | (with_reducible assumption) | assumption)
         obtain ⟨ad163, A163_2, c163_2, e163, hx163_0, hx163_1, hx163_2, hl163_2, hi163_2⟩ := at_T30 HR0.out x7_1 p163 q163
         cases e163
         have HR163_2 := Aside0.mk hi163_2
         have HC163_2 := Aside0.mk hl163_2
         clear hi163_2 hl163_2
         replace p163 := eq_true p163
         replace q163 := eq_true q163
         have p167 : 0 ≤ (x7_1 : Int) := of_decide_eq_true (by first | (with_reducible assumption) | assumption)
         have q167 : x7_1 < (l0.length : Int) := of_decide_eq_true (by first | (with_reducible assumption) | assumption)
         obtain ⟨ad167, A167_2, c167_2, e167, hx167_0, hx167_1, hx167_2, hl167_2, hi167_2⟩ := at_T30 HR0.out x7_1 p167 q167
         obtain rfl : ad163 = ad167 := (by injection e167)
         have HR167_2 := Aside0.mk hi167_2
         have HC167_2 := Aside0.mk hl167_2
         clear hi167_2 hl167_2
         replace p167 := eq_true p167
         replace q167 := eq_true q167
         have ea_ := Option.some.inj (hx163_2.symm.trans hx167_2)
         injection ea_ with ea_ en_ ec_
         subst ea_
         subst ec_
         clear en_
         have p171 : 0 ≤ (x7_1 : Int) := of_decide_eq_true (by first | (with_reducible assumption) | assumption)
         have q171 : x7_1 < (l0.length : Int) := of_decide_eq_true (by first | (with_reducible assumption) | assumption)
         obtain ⟨ad171, A171_2, c171_2, e171, hx171_0, hx171_1, hx171_2, hl171_2, hi171_2⟩ := at_T30 HR0.out x7_1 p171 q171
         obtain rfl : ad163 = ad171 := (by injection e171)
         have HR171_2 := Aside0.mk hi171_2
         have HC171_2 := Aside0.mk hl171_2
         clear hi171_2 hl171_2
         replace p171 := eq_true p171
         replace q171 := eq_true q171
         have ea_ := Option.some.inj (hx163_2.symm.trans hx171_2)
         injection ea_ with ea_ en_ ec_
         subst ea_
         subst ec_
         clear en_
         go_wp2_with (first | ((with_reducible refine gate_callee (f := 11) rfl ?_); refine goesL_ (some 37) rfl rfl Tryd.func11 (by kernel_rfl) rfl #[.slice A163_2 ((rd_T30 l0 x7_1).f2).length c163_2] rfl (by (try simp only [List.map_toArray, List.map_cons, List.map_nil]); first | done | rfl | (simp only [List.length_drop, List.length_take]; rfl)) ?_; (with_reducible refine (ih k1 (by have := HK1.out; omega) _ _ ((rd_T30 l0 x7_1).f2) t172 _ ?side1 ?side2 A13.out).mono ?_); (case side1 => repeat (first | exact HR171_2.out | (with_reducible refine Kd.C_alloc ?_ _) | (with_reducible refine Kd.C_drewN ?_ _) | (with_reducible refine Kd.C_drew ?_))); (case side2 => exact HC171_2.out); rintro e w' ⟨rfl, ⟨nd, rfl⟩⟩; refine ⟨_, rfl, ?_⟩))
         go_roundg k1
         case measure => have := HK1.out; omega
         case rel => exact ⟨(x3_1 ++ t172), (wrap64 (x7_1 + 1)), (by first | rfl | (simp; done) | (simp [*]; done) | (simp [bne, beq_nil_E]; done)), (by first | rfl | (simp; done) | (simp [*]; done) | (simp [bne, beq_nil_E]; done)), H', ⟨by have := HK1.out; omega⟩, by repeat (first | exact Drawn0.refl _ | apply Drawn0.step)⟩
        ·
         rw [if_neg c14] at H
         exact absurd H (by simp)
     ·
      rw [if_neg c4] at H
      exact absurd H (by simp)
    ·
     rw [if_neg c3] at H
     exact absurd H (by simp)
   ·
    rw [if_neg c2] at H
    have c2b0 : decide (x7_1 < (l0.length : Int)) = false := decide_eq_false c2
    clear c2
    obtain rfl := Option.some.inj H
    go_wp2
    go_ret
    exact ⟨by first | rfl | (simp; done) | (simp [*]; done) | (simp [bne, beq_nil_E]; done), by repeat (first | exact Drawn0.refl _ | apply Drawn0.step)⟩

-- GIVEN: function 13 (emendationref07_Right)

end Go.Proofs.YtedieaofadhhdaaDoor.X
