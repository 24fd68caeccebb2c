-- Written by a program of this session (wip/mkprint.py over the kit's print) out of the translation; Lean checks it.
import Derived.Test.YtmamjecpjookoaaDoorX0
import Derived.Test.YtmamjecpjookoaaDoorX1
import Derived.Test.YtmamjecpjookoaaDoorX3
import Derived.Test.YtmamjecpjookoaaDoorX4
import Derived.Test.YtmamjecpjookoaaDoorX5
import Derived.Test.YtmamjecpjookoaaDoorX6
namespace Go.Proofs.YtmamjecpjookoaaDoor.X
open Go.RowKit Go.Proofs.YtmamjecpjookoaaDoor.G Go.Proofs.YtmamjecpjookoaaDoorW.PrintWords Go.Proofs.YtmamjecpjookoaaDoorW.PrintLast Go.Proofs.YtmamjecpjookoaaDoorW.PrintMore
attribute [local go_sem] max2_int min2_int max_two min_two max_three min_three max_four min_four   -- for this text's walks alone
set_option linter.unusedVariables false
set_option linter.unusedSimpArgs false

/-! ### emendationlaw01_UtfClasses: function 9 -/
def emendationlaw01_UtfClasses.j0 : Nat → Int → Int → ByteArray → Bool → Option (Bool)
  | 0, _, _, _, _ => none
  | k + 1, x0, x1, x2, x14 => if x14 = true then ((emendationlaw01_awake.f).bind fun t185 => (some t185)) else ((utf_Fold.f k x2).bind fun t186 => ((utf_Class.f k x0).bind fun t187 => ((emendationref01_Class.f k x0).bind fun t188 => (if t187 = t188 then ((utf_Escapes.f k x1).bind fun t189 => ((emendationref01_Class.f k (wrap64 (x1))).bind fun t190 => (if (t189 == (t190 == 4)) = true then ((emendationref01_Fold.f k x2).bind fun t191 => (if t186.toList = t191.toList then ((utf_Fold.f k t186).bind fun t192 => (some (t192.toList == t186.toList))) else (some false))) else (some false)))) else (some false)))))
def emendationlaw01_UtfClasses.f (k : Nat) (a0 : Int) (a1 : Int) (a2 : ByteArray) : Option (Bool) := (emendationlaw01_awake.f).bind fun t184 => (if t184 = true then (emendationlaw01_UtfClasses.j0 k a0 a1 a2 (decide ((a2.size : Int) > 5000))) else (emendationlaw01_UtfClasses.j0 k a0 a1 a2 true))
theorem emendationlaw01_UtfClasses.mono_l : ∀ k, (∀ y0 y1 y2 y3, LeO (emendationlaw01_UtfClasses.j0 k y0 y1 y2 y3) (emendationlaw01_UtfClasses.j0 (k + 1) y0 y1 y2 y3))
  | 0 => fun _ _ _ _ r h => by simp [emendationlaw01_UtfClasses.j0] at h
  | k + 1 => by
    have ih0 := emendationlaw01_UtfClasses.mono_l k
    · intro y0 y1 y2 y3
      unfold emendationlaw01_UtfClasses.j0
      repeat' first
      | (with_reducible exact ih0 _ _ _ _)
      | (with_reducible exact emendationref01_Class.mono _ _)
      | (with_reducible exact emendationref01_Fold.mono _ _)
      | (with_reducible exact utf_Class.mono _ _)
      | (with_reducible exact utf_Escapes.mono _ _)
      | (with_reducible exact utf_Fold.mono _ _)
      | (with_reducible exact LeO.refl _)
      | (with_reducible exact LeO.none _)
      | (with_reducible refine LeO.ite ?_ ?_)
      | (with_reducible refine LeO.bind ?_ (fun _ => ?_))
      | exact ih0 _ _ _ _
      | exact emendationref01_Class.mono _ _
      | exact emendationref01_Fold.mono _ _
      | exact utf_Class.mono _ _
      | exact utf_Escapes.mono _ _
      | exact utf_Fold.mono _ _
      | exact LeO.none _
      | refine LeO.ite ?_ ?_
      | refine LeO.bind ?_ (fun _ => ?_)
theorem emendationlaw01_UtfClasses.mono : ∀ a0 a1 a2 k, LeO (emendationlaw01_UtfClasses.f k a0 a1 a2) (emendationlaw01_UtfClasses.f (k + 1) a0 a1 a2) := by
  intro a0 a1 a2 k
  have ih0 := emendationlaw01_UtfClasses.mono_l k
  unfold emendationlaw01_UtfClasses.f
  repeat' first
      | (with_reducible exact ih0 _ _ _ _)
      | (with_reducible exact emendationref01_Class.mono _ _)
      | (with_reducible exact emendationref01_Fold.mono _ _)
      | (with_reducible exact utf_Class.mono _ _)
      | (with_reducible exact utf_Escapes.mono _ _)
      | (with_reducible exact utf_Fold.mono _ _)
      | (with_reducible exact LeO.refl _)
      | (with_reducible exact LeO.none _)
      | (with_reducible refine LeO.ite ?_ ?_)
      | (with_reducible refine LeO.bind ?_ (fun _ => ?_))
      | exact ih0 _ _ _ _
      | exact emendationref01_Class.mono _ _
      | exact emendationref01_Fold.mono _ _
      | exact utf_Class.mono _ _
      | exact utf_Escapes.mono _ _
      | exact utf_Fold.mono _ _
      | exact LeO.none _
      | refine LeO.ite ?_ ?_
      | refine LeO.bind ?_ (fun _ => ?_)
set_option maxHeartbeats 8000000 in
set_option maxRecDepth 100000 in
theorem emendationlaw01_UtfClasses.calls (k : Nat) (a0 : Int) (a1 : Int) (a2 : ByteArray) (r : Bool) (w : World) (hT : Tabs w) (h : emendationlaw01_UtfClasses.f k a0 a1 a2 = some r) :
    Calls Tryd.prog 9 #[.int .i64 a0, .int .u8 a1, .string a2] w fun e w' => e = .returned (.bool r) ∧ Below w.heap.size w w' := by
  have HT := Aside0.mk hT
  clear hT
  have HB := Aside0.mk (Below.refl w.heap.size w)
  have H : ((emendationlaw01_awake.f).bind fun t184 => (if t184 = true then (emendationlaw01_UtfClasses.j0 k a0 a1 a2 (decide ((a2.size : Int) > 5000))) else (emendationlaw01_UtfClasses.j0 k a0 a1 a2 true))) = some r := h
  clear h
  have HC4 := Aside0.mk H
  clear H
  go_enter Tryd.func9, Tryd.ntmps9
  go_upto_region 1 with (fail)
  go_cut [14] (fun v14 wc => ∃ (kq : Nat) (x14_3 : Bool), v14 = .bool x14_3 ∧ Aside0 (emendationlaw01_UtfClasses.j0 kq a0 a1 a2 x14_3 = some r) ∧ Aside0 (kq ≤ k) ∧ Aside0 (Below w.heap.size w wc))
  case first =>
    have H := HC4.out
    clear HC4
    replace H := Option.bind_eq_some_iff.mp H
    obtain ⟨t184, A50, H⟩ := H
    replace H : (if t184 = true then (emendationlaw01_UtfClasses.j0 k a0 a1 a2 (decide ((a2.size : Int) > 5000))) else (emendationlaw01_UtfClasses.j0 k a0 a1 a2 true)) = some r := H
    have A5 := Aside0.mk A50
    clear A50
    by_cases c6 : t184 = true
    · subst c6
      have H1 : (emendationlaw01_UtfClasses.j0 k a0 a1 a2 (decide ((a2.size : Int) > 5000))) = some r := by rw [if_pos rfl] at H; exact H
      clear H
      have H := H1
      clear H1
      have H' := Aside0.mk H
      clear H
      go_wp2_with (first | ((with_reducible refine gate_callee (f := 10) rfl ?_); refine goesL_ (some 8) rfl rfl Tryd.func10 (by kernel_rfl) rfl #[] rfl (by (try simp only [List.map_toArray, List.map_cons, List.map_nil]); first | done | rfl | (simp only [List.length_drop, List.length_take]; rfl)) ?_; (with_reducible refine (emendationlaw01_awake.calls  true _ ?side1 A5.out).mono ?_); (case side1 => first | exact HT.out | exact Tabs.at HT.out (by repeat (first | (with_reducible first | exact HB.out | apply below_alloc | apply pw_below_drewN | apply below_drew1) | exact HB.out))); rintro e w7 ⟨rfl, hb⟩; refine ⟨_, rfl, ?_⟩; have n0_ := Aside0.mk (below_step (by repeat (first | (with_reducible first | exact HB.out | apply below_alloc | apply pw_below_drewN | apply below_drew1) | exact HB.out)) hb); clear HB; have HB := n0_; clear n0_; (try clear hb); (try clear hb2); (try clear hk); (try clear hi)))
      go_meet
      case rel => exact ⟨_, (decide ((a2.size : Int) > 5000)), (by first | rfl | (simp; done) | (simp [*]; done) | (simp [bne, beq_nil_E]; done)), H', ⟨by first | omega | exact Nat.le_refl _⟩, ⟨by repeat (first | (with_reducible first | exact HB.out | apply below_alloc | apply pw_below_drewN | apply below_drew1) | exact HB.out)⟩⟩
    · replace c6 := Bool.eq_false_iff.mpr c6
      subst c6
      have H1 : (emendationlaw01_UtfClasses.j0 k a0 a1 a2 true) = some r := by rw [if_neg (show ¬ (false = true) by decide)] at H; exact H
      clear H
      have H := H1
      clear H1
      have H' := Aside0.mk H
      clear H
      go_wp2_with (first | ((with_reducible refine gate_callee (f := 10) rfl ?_); refine goesL_ (some 8) rfl rfl Tryd.func10 (by kernel_rfl) rfl #[] rfl (by (try simp only [List.map_toArray, List.map_cons, List.map_nil]); first | done | rfl | (simp only [List.length_drop, List.length_take]; rfl)) ?_; (with_reducible refine (emendationlaw01_awake.calls  false _ ?side1 A5.out).mono ?_); (case side1 => first | exact HT.out | exact Tabs.at HT.out (by repeat (first | (with_reducible first | exact HB.out | apply below_alloc | apply pw_below_drewN | apply below_drew1) | exact HB.out))); rintro e w8 ⟨rfl, hb⟩; refine ⟨_, rfl, ?_⟩; have n0_ := Aside0.mk (below_step (by repeat (first | (with_reducible first | exact HB.out | apply below_alloc | apply pw_below_drewN | apply below_drew1) | exact HB.out)) hb); clear HB; have HB := n0_; clear n0_; (try clear hb); (try clear hb2); (try clear hk); (try clear hi)))
      go_meet
      case rel => exact ⟨_, (true), (by first | rfl | (simp; done) | (simp [*]; done) | (simp [bne, beq_nil_E]; done)), H', ⟨by first | omega | exact Nat.le_refl _⟩, ⟨by repeat (first | (with_reducible first | exact HB.out | apply below_alloc | apply pw_below_drewN | apply below_drew1) | exact HB.out)⟩⟩
  case rest =>
    clear HC4
    try clear c1
    try clear p2
    try clear c6
    obtain ⟨kq, x14_3, rfl, HA, HJ3, HB⟩ := hcut
    cases kq with
    | zero => exact absurd HA.out (by simp [emendationlaw01_UtfClasses.j0])
    | succ kj3 =>
      have H := HA.out
      clear HA
      simp only [emendationlaw01_UtfClasses.j0] at H
      by_cases c9 : x14_3 = true
      · subst c9
        have H1 : ((emendationlaw01_awake.f).bind fun t185 => (some t185)) = some r := by rw [if_pos rfl] at H; exact H
        clear H
        have H := H1
        clear H1
        replace H := Option.bind_eq_some_iff.mp H
        obtain ⟨t185, A100, H⟩ := H
        replace H : (some t185) = some r := H
        have A10 := Aside0.mk A100
        clear A100
        obtain rfl := Option.some.inj H
        go_wp2_with (first | ((with_reducible refine gate_callee (f := 10) rfl ?_); refine goesL_ (some 15) rfl rfl Tryd.func10 (by kernel_rfl) rfl #[] rfl (by (try simp only [List.map_toArray, List.map_cons, List.map_nil]); first | done | rfl | (simp only [List.length_drop, List.length_take]; rfl)) ?_; (with_reducible refine (emendationlaw01_awake.calls  t185 _ ?side1 A10.out).mono ?_); (case side1 => first | exact HT.out | exact Tabs.at HT.out (by repeat (first | (with_reducible first | exact HB.out | apply below_alloc | apply pw_below_drewN | apply below_drew1) | exact HB.out))); rintro e w11 ⟨rfl, hb⟩; refine ⟨_, rfl, ?_⟩; have n0_ := Aside0.mk (below_step (by repeat (first | (with_reducible first | exact HB.out | apply below_alloc | apply pw_below_drewN | apply below_drew1) | exact HB.out)) hb); clear HB; have HB := n0_; clear n0_; (try clear hb); (try clear hb2); (try clear hk); (try clear hi)))
        go_ret
        exact ⟨by first | rfl | (simp [errW_none, errW_some] <;> rfl) | (simp [*, errW_none, errW_some] <;> rfl), by repeat (first | (with_reducible first | exact HB.out | apply below_alloc | apply pw_below_drewN | apply below_drew1) | exact HB.out)⟩
      · replace c9 := Bool.eq_false_iff.mpr c9
        subst c9
        have H1 : ((utf_Fold.f kj3 a2).bind fun t186 => ((utf_Class.f kj3 a0).bind fun t187 => ((emendationref01_Class.f kj3 a0).bind fun t188 => (if t187 = t188 then ((utf_Escapes.f kj3 a1).bind fun t189 => ((emendationref01_Class.f kj3 (wrap64 (a1))).bind fun t190 => (if (t189 == (t190 == 4)) = true then ((emendationref01_Fold.f kj3 a2).bind fun t191 => (if t186.toList = t191.toList then ((utf_Fold.f kj3 t186).bind fun t192 => (some (t192.toList == t186.toList))) else (some false))) else (some false)))) else (some false))))) = some r := by rw [if_neg (show ¬ (false = true) by decide)] at H; exact H
        clear H
        have H := H1
        clear H1
        replace H := Option.bind_eq_some_iff.mp H
        obtain ⟨t186, A120, H⟩ := H
        replace H : ((utf_Class.f kj3 a0).bind fun t187 => ((emendationref01_Class.f kj3 a0).bind fun t188 => (if t187 = t188 then ((utf_Escapes.f kj3 a1).bind fun t189 => ((emendationref01_Class.f kj3 (wrap64 (a1))).bind fun t190 => (if (t189 == (t190 == 4)) = true then ((emendationref01_Fold.f kj3 a2).bind fun t191 => (if t186.toList = t191.toList then ((utf_Fold.f kj3 t186).bind fun t192 => (some (t192.toList == t186.toList))) else (some false))) else (some false)))) else (some false)))) = some r := H
        have A12 := Aside0.mk A120
        clear A120
        replace H := Option.bind_eq_some_iff.mp H
        obtain ⟨t187, A130, H⟩ := H
        replace H : ((emendationref01_Class.f kj3 a0).bind fun t188 => (if t187 = t188 then ((utf_Escapes.f kj3 a1).bind fun t189 => ((emendationref01_Class.f kj3 (wrap64 (a1))).bind fun t190 => (if (t189 == (t190 == 4)) = true then ((emendationref01_Fold.f kj3 a2).bind fun t191 => (if t186.toList = t191.toList then ((utf_Fold.f kj3 t186).bind fun t192 => (some (t192.toList == t186.toList))) else (some false))) else (some false)))) else (some false))) = some r := H
        have A13 := Aside0.mk A130
        clear A130
        replace H := Option.bind_eq_some_iff.mp H
        obtain ⟨t188, A140, H⟩ := H
        replace H : (if t187 = t188 then ((utf_Escapes.f kj3 a1).bind fun t189 => ((emendationref01_Class.f kj3 (wrap64 (a1))).bind fun t190 => (if (t189 == (t190 == 4)) = true then ((emendationref01_Fold.f kj3 a2).bind fun t191 => (if t186.toList = t191.toList then ((utf_Fold.f kj3 t186).bind fun t192 => (some (t192.toList == t186.toList))) else (some false))) else (some false)))) else (some false)) = some r := H
        have A14 := Aside0.mk A140
        clear A140
        by_cases c15 : t187 = t188
        · rw [if_pos c15] at H
          have c15b0 : (t187 == t188) = true := beq_iff_eq.mpr c15
          have c15b1 : (t187 != t188) = false := bne_eq_false_iff_eq.mpr c15
          clear c15
          replace H := Option.bind_eq_some_iff.mp H
          obtain ⟨t189, A160, H⟩ := H
          replace H : ((emendationref01_Class.f kj3 (wrap64 (a1))).bind fun t190 => (if (t189 == (t190 == 4)) = true then ((emendationref01_Fold.f kj3 a2).bind fun t191 => (if t186.toList = t191.toList then ((utf_Fold.f kj3 t186).bind fun t192 => (some (t192.toList == t186.toList))) else (some false))) else (some false))) = some r := H
          have A16 := Aside0.mk A160
          clear A160
          replace H := Option.bind_eq_some_iff.mp H
          obtain ⟨t190, A170, H⟩ := H
          replace H : (if (t189 == (t190 == 4)) = true then ((emendationref01_Fold.f kj3 a2).bind fun t191 => (if t186.toList = t191.toList then ((utf_Fold.f kj3 t186).bind fun t192 => (some (t192.toList == t186.toList))) else (some false))) else (some false)) = some r := H
          have A17 := Aside0.mk A170
          clear A170
          by_cases c18 : (t189 == (t190 == 4)) = true
          · rw [if_pos c18] at H
            have c18b0 : (t189 == (t190 == 4)) = true := c18
            (try (have c18b1 : decide (t189 = (t190 == 4)) = true := by simpa using c18))
            (try (have c18b2 : (t189 == (t190 == 4)) = true := by simpa using c18))
            clear c18
            replace H := Option.bind_eq_some_iff.mp H
            obtain ⟨t191, A190, H⟩ := H
            replace H : (if t186.toList = t191.toList then ((utf_Fold.f kj3 t186).bind fun t192 => (some (t192.toList == t186.toList))) else (some false)) = some r := H
            have A19 := Aside0.mk A190
            clear A190
            by_cases c20 : t186.toList = t191.toList
            · rw [if_pos c20] at H
              have c20b0 : (t186.toList == t191.toList) = true := beq_iff_eq.mpr c20
              have c20b1 : (t186.toList != t191.toList) = false := bne_eq_false_iff_eq.mpr c20
              clear c20
              replace H := Option.bind_eq_some_iff.mp H
              obtain ⟨t192, A210, H⟩ := H
              replace H : (some (t192.toList == t186.toList)) = some r := H
              have A21 := Aside0.mk A210
              clear A210
              obtain rfl := Option.some.inj H
              go_wp2_with (first | ((with_reducible refine gate_callee (f := 15) rfl ?_); refine goesL_ (some 17) rfl rfl Tryd.func15 (by kernel_rfl) rfl #[.string a2] rfl (by (try simp only [List.map_toArray, List.map_cons, List.map_nil]); first | done | rfl | (simp only [List.length_drop, List.length_take]; rfl)) ?_; (with_reducible refine (utf_Fold.calls kj3 a2 t186 _ A12.out).mono ?_); rintro e w22 ⟨rfl, hb⟩; refine ⟨_, rfl, ?_⟩; have n0_ := Aside0.mk (below_step (by repeat (first | (with_reducible first | exact HB.out | apply below_alloc | apply pw_below_drewN | apply below_drew1) | exact HB.out)) hb); clear HB; have HB := n0_; clear n0_; (try clear hb); (try clear hb2); (try clear hk); (try clear hi)) | ((with_reducible refine gate_callee (f := 16) rfl ?_); refine goesL_ (some 19) rfl rfl Tryd.func16 (by kernel_rfl) rfl #[.int .i64 a0] rfl (by (try simp only [List.map_toArray, List.map_cons, List.map_nil]); first | done | rfl | (simp only [List.length_drop, List.length_take]; rfl)) ?_; (with_reducible refine (utf_Class.calls kj3 a0 t187 _ A13.out).mono ?_); rintro e w' ⟨rfl, ⟨nd, rfl⟩⟩; refine ⟨_, rfl, ?_⟩) | ((with_reducible refine gate_callee (f := 17) rfl ?_); refine goesL_ (some 21) rfl rfl Tryd.func17 (by kernel_rfl) rfl #[.int .i64 a0] rfl (by (try simp only [List.map_toArray, List.map_cons, List.map_nil]); first | done | rfl | (simp only [List.length_drop, List.length_take]; rfl)) ?_; (with_reducible refine (emendationref01_Class.calls kj3 a0 t188 _ A14.out).mono ?_); rintro e w' ⟨rfl, ⟨nd, rfl⟩⟩; refine ⟨_, rfl, ?_⟩; have tkA16 : True := trivial) | (go_at_call 18; clear tkA16; (with_reducible refine (utf_Escapes.calls kj3 a1 t189 _ A16.out).mono ?_); rintro e w' ⟨rfl, ⟨nd, rfl⟩⟩; have tkA17 : True := trivial) | (go_at_call 17; clear tkA17; (with_reducible refine (emendationref01_Class.calls kj3 (wrap64 (a1)) t190 _ A17.out).mono ?_); rintro e w' ⟨rfl, ⟨nd, rfl⟩⟩; have tkA19 : True := trivial) | (go_at_call 19; clear tkA19; (with_reducible refine (emendationref01_Fold.calls kj3 a2 t191 _ A19.out).mono ?_); rintro e w23 ⟨rfl, hb⟩; have n0_ := Aside0.mk (below_step (by repeat (first | (with_reducible first | exact HB.out | apply below_alloc | apply pw_below_drewN | apply below_drew1) | exact HB.out)) hb); clear HB; have HB := n0_; clear n0_; (try clear hb); (try clear hb2); (try clear hk); (try clear hi); have tkA21 : True := trivial) | (go_at_call 15; clear tkA21; (with_reducible refine (utf_Fold.calls kj3 t186 t192 _ A21.out).mono ?_); rintro e w24 ⟨rfl, hb⟩; have n0_ := Aside0.mk (below_step (by repeat (first | (with_reducible first | exact HB.out | apply below_alloc | apply pw_below_drewN | apply below_drew1) | exact HB.out)) hb); clear HB; have HB := n0_; clear n0_; (try clear hb); (try clear hb2); (try clear hk); (try clear hi)))
              go_ret
              exact ⟨by first | rfl | (simp [errW_none, errW_some] <;> rfl) | (simp [*, errW_none, errW_some] <;> rfl), by repeat (first | (with_reducible first | exact HB.out | apply below_alloc | apply pw_below_drewN | apply below_drew1) | exact HB.out)⟩
            · rw [if_neg c20] at H
              have c20b0 : (t186.toList == t191.toList) = false := beq_eq_false_iff_ne.mpr c20
              have c20b1 : (t186.toList != t191.toList) = true := bne_iff_ne.mpr c20
              obtain rfl := Option.some.inj H
              go_wp2_with (first | ((with_reducible refine gate_callee (f := 15) rfl ?_); refine goesL_ (some 17) rfl rfl Tryd.func15 (by kernel_rfl) rfl #[.string a2] rfl (by (try simp only [List.map_toArray, List.map_cons, List.map_nil]); first | done | rfl | (simp only [List.length_drop, List.length_take]; rfl)) ?_; (with_reducible refine (utf_Fold.calls kj3 a2 t186 _ A12.out).mono ?_); rintro e w25 ⟨rfl, hb⟩; refine ⟨_, rfl, ?_⟩; have n0_ := Aside0.mk (below_step (by repeat (first | (with_reducible first | exact HB.out | apply below_alloc | apply pw_below_drewN | apply below_drew1) | exact HB.out)) hb); clear HB; have HB := n0_; clear n0_; (try clear hb); (try clear hb2); (try clear hk); (try clear hi)) | ((with_reducible refine gate_callee (f := 16) rfl ?_); refine goesL_ (some 19) rfl rfl Tryd.func16 (by kernel_rfl) rfl #[.int .i64 a0] rfl (by (try simp only [List.map_toArray, List.map_cons, List.map_nil]); first | done | rfl | (simp only [List.length_drop, List.length_take]; rfl)) ?_; (with_reducible refine (utf_Class.calls kj3 a0 t187 _ A13.out).mono ?_); rintro e w' ⟨rfl, ⟨nd, rfl⟩⟩; refine ⟨_, rfl, ?_⟩) | ((with_reducible refine gate_callee (f := 17) rfl ?_); refine goesL_ (some 21) rfl rfl Tryd.func17 (by kernel_rfl) rfl #[.int .i64 a0] rfl (by (try simp only [List.map_toArray, List.map_cons, List.map_nil]); first | done | rfl | (simp only [List.length_drop, List.length_take]; rfl)) ?_; (with_reducible refine (emendationref01_Class.calls kj3 a0 t188 _ A14.out).mono ?_); rintro e w' ⟨rfl, ⟨nd, rfl⟩⟩; refine ⟨_, rfl, ?_⟩; have tkA16 : True := trivial) | (go_at_call 18; clear tkA16; (with_reducible refine (utf_Escapes.calls kj3 a1 t189 _ A16.out).mono ?_); rintro e w' ⟨rfl, ⟨nd, rfl⟩⟩; have tkA17 : True := trivial) | (go_at_call 17; clear tkA17; (with_reducible refine (emendationref01_Class.calls kj3 (wrap64 (a1)) t190 _ A17.out).mono ?_); rintro e w' ⟨rfl, ⟨nd, rfl⟩⟩; have tkA19 : True := trivial) | (go_at_call 19; clear tkA19; (with_reducible refine (emendationref01_Fold.calls kj3 a2 t191 _ A19.out).mono ?_); rintro e w26 ⟨rfl, hb⟩; have n0_ := Aside0.mk (below_step (by repeat (first | (with_reducible first | exact HB.out | apply below_alloc | apply pw_below_drewN | apply below_drew1) | exact HB.out)) hb); clear HB; have HB := n0_; clear n0_; (try clear hb); (try clear hb2); (try clear hk); (try clear hi)))
              go_ret
              exact ⟨by first | rfl | (simp [errW_none, errW_some] <;> rfl) | (simp [*, errW_none, errW_some] <;> rfl), by repeat (first | (with_reducible first | exact HB.out | apply below_alloc | apply pw_below_drewN | apply below_drew1) | exact HB.out)⟩
          · rw [if_neg c18] at H
            have c18b0 : (t189 == (t190 == 4)) = false := by simpa using c18
            (try (have c18b1 : decide (t189 = (t190 == 4)) = false := by simpa using c18))
            (try (have c18b2 : (t189 == (t190 == 4)) = false := by simpa using c18))
            (try (have c18b3 : ¬ (t189 = (t190 == 4)) := by simpa using c18))
            clear c18
            obtain rfl := Option.some.inj H
            go_wp2_with (first | ((with_reducible refine gate_callee (f := 15) rfl ?_); refine goesL_ (some 17) rfl rfl Tryd.func15 (by kernel_rfl) rfl #[.string a2] rfl (by (try simp only [List.map_toArray, List.map_cons, List.map_nil]); first | done | rfl | (simp only [List.length_drop, List.length_take]; rfl)) ?_; (with_reducible refine (utf_Fold.calls kj3 a2 t186 _ A12.out).mono ?_); rintro e w27 ⟨rfl, hb⟩; refine ⟨_, rfl, ?_⟩; have n0_ := Aside0.mk (below_step (by repeat (first | (with_reducible first | exact HB.out | apply below_alloc | apply pw_below_drewN | apply below_drew1) | exact HB.out)) hb); clear HB; have HB := n0_; clear n0_; (try clear hb); (try clear hb2); (try clear hk); (try clear hi)) | ((with_reducible refine gate_callee (f := 16) rfl ?_); refine goesL_ (some 19) rfl rfl Tryd.func16 (by kernel_rfl) rfl #[.int .i64 a0] rfl (by (try simp only [List.map_toArray, List.map_cons, List.map_nil]); first | done | rfl | (simp only [List.length_drop, List.length_take]; rfl)) ?_; (with_reducible refine (utf_Class.calls kj3 a0 t187 _ A13.out).mono ?_); rintro e w' ⟨rfl, ⟨nd, rfl⟩⟩; refine ⟨_, rfl, ?_⟩) | ((with_reducible refine gate_callee (f := 17) rfl ?_); refine goesL_ (some 21) rfl rfl Tryd.func17 (by kernel_rfl) rfl #[.int .i64 a0] rfl (by (try simp only [List.map_toArray, List.map_cons, List.map_nil]); first | done | rfl | (simp only [List.length_drop, List.length_take]; rfl)) ?_; (with_reducible refine (emendationref01_Class.calls kj3 a0 t188 _ A14.out).mono ?_); rintro e w' ⟨rfl, ⟨nd, rfl⟩⟩; refine ⟨_, rfl, ?_⟩; have tkA16 : True := trivial) | (go_at_call 18; clear tkA16; (with_reducible refine (utf_Escapes.calls kj3 a1 t189 _ A16.out).mono ?_); rintro e w' ⟨rfl, ⟨nd, rfl⟩⟩; have tkA17 : True := trivial) | (go_at_call 17; clear tkA17; (with_reducible refine (emendationref01_Class.calls kj3 (wrap64 (a1)) t190 _ A17.out).mono ?_); rintro e w' ⟨rfl, ⟨nd, rfl⟩⟩))
            go_ret
            exact ⟨by first | rfl | (simp [errW_none, errW_some] <;> rfl) | (simp [*, errW_none, errW_some] <;> rfl), by repeat (first | (with_reducible first | exact HB.out | apply below_alloc | apply pw_below_drewN | apply below_drew1) | exact HB.out)⟩
        · rw [if_neg c15] at H
          have c15b0 : (t187 == t188) = false := beq_eq_false_iff_ne.mpr c15
          have c15b1 : (t187 != t188) = true := bne_iff_ne.mpr c15
          obtain rfl := Option.some.inj H
          go_wp2_with (first | ((with_reducible refine gate_callee (f := 15) rfl ?_); refine goesL_ (some 17) rfl rfl Tryd.func15 (by kernel_rfl) rfl #[.string a2] rfl (by (try simp only [List.map_toArray, List.map_cons, List.map_nil]); first | done | rfl | (simp only [List.length_drop, List.length_take]; rfl)) ?_; (with_reducible refine (utf_Fold.calls kj3 a2 t186 _ A12.out).mono ?_); rintro e w28 ⟨rfl, hb⟩; refine ⟨_, rfl, ?_⟩; have n0_ := Aside0.mk (below_step (by repeat (first | (with_reducible first | exact HB.out | apply below_alloc | apply pw_below_drewN | apply below_drew1) | exact HB.out)) hb); clear HB; have HB := n0_; clear n0_; (try clear hb); (try clear hb2); (try clear hk); (try clear hi)) | ((with_reducible refine gate_callee (f := 16) rfl ?_); refine goesL_ (some 19) rfl rfl Tryd.func16 (by kernel_rfl) rfl #[.int .i64 a0] rfl (by (try simp only [List.map_toArray, List.map_cons, List.map_nil]); first | done | rfl | (simp only [List.length_drop, List.length_take]; rfl)) ?_; (with_reducible refine (utf_Class.calls kj3 a0 t187 _ A13.out).mono ?_); rintro e w' ⟨rfl, ⟨nd, rfl⟩⟩; refine ⟨_, rfl, ?_⟩) | ((with_reducible refine gate_callee (f := 17) rfl ?_); refine goesL_ (some 21) rfl rfl Tryd.func17 (by kernel_rfl) rfl #[.int .i64 a0] rfl (by (try simp only [List.map_toArray, List.map_cons, List.map_nil]); first | done | rfl | (simp only [List.length_drop, List.length_take]; rfl)) ?_; (with_reducible refine (emendationref01_Class.calls kj3 a0 t188 _ A14.out).mono ?_); rintro e w' ⟨rfl, ⟨nd, rfl⟩⟩; refine ⟨_, rfl, ?_⟩))
          go_ret
          exact ⟨by first | rfl | (simp [errW_none, errW_some] <;> rfl) | (simp [*, errW_none, errW_some] <;> rfl), by repeat (first | (with_reducible first | exact HB.out | apply below_alloc | apply pw_below_drewN | apply below_drew1) | exact HB.out)⟩

/-! ### emendationlaw01_UtfJoins: function 6 -/
mutual
def emendationlaw01_UtfJoins.j0 : Nat → ByteArray → ByteArray → Int → Bool → Option (Bool)
  | 0, _, _, _, _ => none
  | k + 1, x0, x1, x2, x34 => if x34 = true then ((emendationlaw01_awake.f).bind fun t202 => (some t202)) else (if x0.size + x1.size ≤ 9223372036854775807 then (if (IntKind.u64.wrap (wrap64 (((x0 ++ x1).size : Int) + 1))) = 0 then (none) else (emendationlaw01_UtfJoins.l0 k (x0 ++ x1) (wrap64 (Int.tmod x2 (IntKind.u64.wrap (wrap64 (((x0 ++ x1).size : Int) + 1))))) 0)) else (none))
def emendationlaw01_UtfJoins.l0 : Nat → ByteArray → Int → Int → Option (Bool)
  | 0, _, _, _ => none
  | k + 1, x7, x8, x9 => if x9 < x8 then ((utf_Next.f k x7 x9).bind fun bt203 => (if bt203.2 = 0 then (some false) else (emendationlaw01_UtfJoins.l0 k x7 x8 (wrap64 (x9 + bt203.2))))) else (if x7.size ≤ 9223372036854775807 then ((utf_Check.f (bytesOf x7)).bind fun t208 => (if t208 = 0 then (if 0 ≤ x8 then (if x8 ≤ (x7.size : Int) then (if (x7.extract 0 (x8 : Int).toNat).size ≤ 9223372036854775807 then ((utf_Check.f (bytesOf (x7.extract 0 (x8 : Int).toNat))).bind fun t212 => (if ((t212 == 0) == (x9 == x8)) = true then (if (x7.extract (x8 : Int).toNat x7.size).size ≤ 9223372036854775807 then ((utf_Check.f (bytesOf (x7.extract (x8 : Int).toNat x7.size))).bind fun t216 => (some ((t216 == 0) == (x9 == x8)))) else (none)) else (some false))) else (none)) else (none)) else (none)) else (some false))) else (none))
end
def emendationlaw01_UtfJoins.f (k : Nat) (a0 : ByteArray) (a1 : ByteArray) (a2 : Int) : Option (Bool) := (emendationlaw01_awake.f).bind fun t193 => (if t193 = true then (if (wrap64 ((a0.size : Int) + (a1.size : Int))) > 5000 then (emendationlaw01_UtfJoins.j0 k a0 a1 a2 true) else (if a0.size ≤ 9223372036854775807 then ((utf_Check.f (bytesOf a0)).bind fun t197 => (if t197 = 0 then (if a1.size ≤ 9223372036854775807 then ((utf_Check.f (bytesOf a1)).bind fun t201 => (emendationlaw01_UtfJoins.j0 k a0 a1 a2 (t201 != 0))) else (none)) else (emendationlaw01_UtfJoins.j0 k a0 a1 a2 true))) else (none))) else (emendationlaw01_UtfJoins.j0 k a0 a1 a2 true))
theorem emendationlaw01_UtfJoins.mono_l : ∀ k, (∀ y0 y1 y2 y3, LeO (emendationlaw01_UtfJoins.j0 k y0 y1 y2 y3) (emendationlaw01_UtfJoins.j0 (k + 1) y0 y1 y2 y3)) ∧ (∀ y0 y1 y2, LeO (emendationlaw01_UtfJoins.l0 k y0 y1 y2) (emendationlaw01_UtfJoins.l0 (k + 1) y0 y1 y2))
  | 0 => ⟨fun _ _ _ _ r h => by simp [emendationlaw01_UtfJoins.j0] at h, fun _ _ _ r h => by simp [emendationlaw01_UtfJoins.l0] at h⟩
  | k + 1 => by
    obtain ⟨ih0, ih1⟩ := emendationlaw01_UtfJoins.mono_l k
    refine ⟨?_, ?_⟩
    · intro y0 y1 y2 y3
      unfold emendationlaw01_UtfJoins.j0
      repeat' first
      | (with_reducible exact ih0 _ _ _ _)
      | (with_reducible exact ih1 _ _ _)
      | (with_reducible exact utf_Next.mono _ _ _)
      | (with_reducible exact LeO.refl _)
      | (with_reducible exact LeO.none _)
      | (with_reducible refine LeO.ite ?_ ?_)
      | (with_reducible refine LeO.bind ?_ (fun _ => ?_))
      | exact ih0 _ _ _ _
      | exact ih1 _ _ _
      | exact utf_Next.mono _ _ _
      | exact LeO.none _
      | refine LeO.ite ?_ ?_
      | refine LeO.bind ?_ (fun _ => ?_)
    · intro y0 y1 y2
      unfold emendationlaw01_UtfJoins.l0
      repeat' first
      | (with_reducible exact ih0 _ _ _ _)
      | (with_reducible exact ih1 _ _ _)
      | (with_reducible exact utf_Next.mono _ _ _)
      | (with_reducible exact LeO.refl _)
      | (with_reducible exact LeO.none _)
      | (with_reducible refine LeO.ite ?_ ?_)
      | (with_reducible refine LeO.bind ?_ (fun _ => ?_))
      | exact ih0 _ _ _ _
      | exact ih1 _ _ _
      | exact utf_Next.mono _ _ _
      | exact LeO.none _
      | refine LeO.ite ?_ ?_
      | refine LeO.bind ?_ (fun _ => ?_)
theorem emendationlaw01_UtfJoins.mono : ∀ a0 a1 a2 k, LeO (emendationlaw01_UtfJoins.f k a0 a1 a2) (emendationlaw01_UtfJoins.f (k + 1) a0 a1 a2) := by
  intro a0 a1 a2 k
  obtain ⟨ih0, ih1⟩ := emendationlaw01_UtfJoins.mono_l k
  unfold emendationlaw01_UtfJoins.f
  repeat' first
      | (with_reducible exact ih0 _ _ _ _)
      | (with_reducible exact ih1 _ _ _)
      | (with_reducible exact utf_Next.mono _ _ _)
      | (with_reducible exact LeO.refl _)
      | (with_reducible exact LeO.none _)
      | (with_reducible refine LeO.ite ?_ ?_)
      | (with_reducible refine LeO.bind ?_ (fun _ => ?_))
      | exact ih0 _ _ _ _
      | exact ih1 _ _ _
      | exact utf_Next.mono _ _ _
      | exact LeO.none _
      | refine LeO.ite ?_ ?_
      | refine LeO.bind ?_ (fun _ => ?_)
set_option maxHeartbeats 8000000 in
set_option maxRecDepth 100000 in
theorem emendationlaw01_UtfJoins.calls (k : Nat) (a0 : ByteArray) (a1 : ByteArray) (a2 : Int) (r : Bool) (w : World) (hT : Tabs w) (h : emendationlaw01_UtfJoins.f k a0 a1 a2 = some r) :
    Calls Tryd.prog 6 #[.string a0, .string a1, .int .u64 a2] w fun e w' => e = .returned (.bool r) ∧ Below w.heap.size w w' := by
  have HT := Aside0.mk hT
  clear hT
  have HB := Aside0.mk (Below.refl w.heap.size w)
  have H : ((emendationlaw01_awake.f).bind fun t193 => (if t193 = true then (if (wrap64 ((a0.size : Int) + (a1.size : Int))) > 5000 then (emendationlaw01_UtfJoins.j0 k a0 a1 a2 true) else (if a0.size ≤ 9223372036854775807 then ((utf_Check.f (bytesOf a0)).bind fun t197 => (if t197 = 0 then (if a1.size ≤ 9223372036854775807 then ((utf_Check.f (bytesOf a1)).bind fun t201 => (emendationlaw01_UtfJoins.j0 k a0 a1 a2 (t201 != 0))) else (none)) else (emendationlaw01_UtfJoins.j0 k a0 a1 a2 true))) else (none))) else (emendationlaw01_UtfJoins.j0 k a0 a1 a2 true))) = some r := h
  clear h
  have HC4 := Aside0.mk H
  clear H
  go_enter Tryd.func6, Tryd.ntmps6
  go_upto_region 1 with (fail)
  go_cut [34] (fun v34 wc => ∃ (kq : Nat) (x34_3 : Bool), v34 = .bool x34_3 ∧ Aside0 (emendationlaw01_UtfJoins.j0 kq a0 a1 a2 x34_3 = some r) ∧ Aside0 (kq ≤ k) ∧ Aside0 (Below w.heap.size w wc))
  case first =>
    have H := HC4.out
    clear HC4
    replace H := Option.bind_eq_some_iff.mp H
    obtain ⟨t193, A50, H⟩ := H
    replace H : (if t193 = true then (if (wrap64 ((a0.size : Int) + (a1.size : Int))) > 5000 then (emendationlaw01_UtfJoins.j0 k a0 a1 a2 true) else (if a0.size ≤ 9223372036854775807 then ((utf_Check.f (bytesOf a0)).bind fun t197 => (if t197 = 0 then (if a1.size ≤ 9223372036854775807 then ((utf_Check.f (bytesOf a1)).bind fun t201 => (emendationlaw01_UtfJoins.j0 k a0 a1 a2 (t201 != 0))) else (none)) else (emendationlaw01_UtfJoins.j0 k a0 a1 a2 true))) else (none))) else (emendationlaw01_UtfJoins.j0 k a0 a1 a2 true)) = some r := H
    have A5 := Aside0.mk A50
    clear A50
    by_cases c6 : t193 = true
    · subst c6
      have H1 : (if (wrap64 ((a0.size : Int) + (a1.size : Int))) > 5000 then (emendationlaw01_UtfJoins.j0 k a0 a1 a2 true) else (if a0.size ≤ 9223372036854775807 then ((utf_Check.f (bytesOf a0)).bind fun t197 => (if t197 = 0 then (if a1.size ≤ 9223372036854775807 then ((utf_Check.f (bytesOf a1)).bind fun t201 => (emendationlaw01_UtfJoins.j0 k a0 a1 a2 (t201 != 0))) else (none)) else (emendationlaw01_UtfJoins.j0 k a0 a1 a2 true))) else (none))) = some r := by rw [if_pos rfl] at H; exact H
      clear H
      have H := H1
      clear H1
      by_cases c7 : (wrap64 ((a0.size : Int) + (a1.size : Int))) > 5000
      · rw [if_pos c7] at H
        have c7b0 : decide (5000 < (wrap64 ((a0.size : Int) + (a1.size : Int)))) = true := decide_eq_true c7
        clear c7
        (first | rw [c7b0] | (simp only [i64_w, i32_w]; rw [c7b0]) | skip)
        have H' := Aside0.mk H
        clear H
        go_wp2_with (first | ((with_reducible refine gate_callee (f := 10) rfl ?_); refine goesL_ (some 13) rfl rfl Tryd.func10 (by kernel_rfl) rfl #[] rfl (by (try simp only [List.map_toArray, List.map_cons, List.map_nil]); first | done | rfl | (simp only [List.length_drop, List.length_take]; rfl)) ?_; (with_reducible refine (emendationlaw01_awake.calls  true _ ?side1 A5.out).mono ?_); (case side1 => first | exact HT.out | exact Tabs.at HT.out (by repeat (first | (with_reducible first | exact HB.out | apply below_alloc | apply pw_below_drewN | apply below_drew1) | exact HB.out))); rintro e w8 ⟨rfl, hb⟩; refine ⟨_, rfl, ?_⟩; have n0_ := Aside0.mk (below_step (by repeat (first | (with_reducible first | exact HB.out | apply below_alloc | apply pw_below_drewN | apply below_drew1) | exact HB.out)) hb); clear HB; have HB := n0_; clear n0_; (try clear hb); (try clear hb2); (try clear hk); (try clear hi)))
        go_meet
        case rel => exact ⟨_, (true), (by first | rfl | (simp; done) | (simp [*]; done) | (simp [bne, beq_nil_E]; done)), H', ⟨by first | omega | exact Nat.le_refl _⟩, ⟨by repeat (first | (with_reducible first | exact HB.out | apply below_alloc | apply pw_below_drewN | apply below_drew1) | exact HB.out)⟩⟩
      · rw [if_neg c7] at H
        have c7b0 : decide (5000 < (wrap64 ((a0.size : Int) + (a1.size : Int)))) = false := decide_eq_false c7
        clear c7
        (first | rw [c7b0] | (simp only [i64_w, i32_w]; rw [c7b0]) | skip)
        by_cases c9 : a0.size ≤ 9223372036854775807
        · rw [if_pos c9] at H
          have c9b0 := eq_true c9
          have c9b1 : decide (a0.size ≤ 9223372036854775807) = true := decide_eq_true c9
          try have c9b2 : (9223372036854775807 < a0.size) = False := eq_false (Nat.not_lt.2 c9)
          clear c9
          obtain ⟨y194, hy194⟩ : ∃ y_ : List Int, y_ = (bytesOf a0) := ⟨_, rfl⟩
          replace H : ((utf_Check.f y194).bind fun t197 => (if t197 = 0 then (if a1.size ≤ 9223372036854775807 then ((utf_Check.f (bytesOf a1)).bind fun t201 => (emendationlaw01_UtfJoins.j0 k a0 a1 a2 (t201 != 0))) else (none)) else (emendationlaw01_UtfJoins.j0 k a0 a1 a2 true))) = some r := by first | (rw [hy194]; with_reducible exact H) | (have H2_ := (Option.bind_some _ _).symm.trans H; rw [hy194]; with_reducible exact H2_) | (have H2_ := (Option.bind_some _ _).symm.trans H; with_reducible exact H2_) | with_reducible exact H | (rw [hy194]; exact H) | exact H
          have Ny194 := Aside0.mk hy194
          clear hy194
          replace H := Option.bind_eq_some_iff.mp H
          obtain ⟨t197, A100, H⟩ := H
          replace H : (if t197 = 0 then (if a1.size ≤ 9223372036854775807 then ((utf_Check.f (bytesOf a1)).bind fun t201 => (emendationlaw01_UtfJoins.j0 k a0 a1 a2 (t201 != 0))) else (none)) else (emendationlaw01_UtfJoins.j0 k a0 a1 a2 true)) = some r := H
          have A10 := Aside0.mk A100
          clear A100
          by_cases c11 : t197 = 0
          · rw [if_pos c11] at H
            have c11b0 : (t197 == 0) = true := beq_iff_eq.mpr c11
            have c11b1 : (t197 != 0) = false := bne_eq_false_iff_eq.mpr c11
            clear c11
            by_cases c12 : a1.size ≤ 9223372036854775807
            · rw [if_pos c12] at H
              have c12b0 := eq_true c12
              have c12b1 : decide (a1.size ≤ 9223372036854775807) = true := decide_eq_true c12
              try have c12b2 : (9223372036854775807 < a1.size) = False := eq_false (Nat.not_lt.2 c12)
              clear c12
              obtain ⟨y198, hy198⟩ : ∃ y_ : List Int, y_ = (bytesOf a1) := ⟨_, rfl⟩
              replace H : ((utf_Check.f y198).bind fun t201 => (emendationlaw01_UtfJoins.j0 k a0 a1 a2 (t201 != 0))) = some r := by first | (rw [hy198]; with_reducible exact H) | (have H2_ := (Option.bind_some _ _).symm.trans H; rw [hy198]; with_reducible exact H2_) | (have H2_ := (Option.bind_some _ _).symm.trans H; with_reducible exact H2_) | with_reducible exact H | (rw [hy198]; exact H) | exact H
              have Ny198 := Aside0.mk hy198
              clear hy198
              replace H := Option.bind_eq_some_iff.mp H
              obtain ⟨t201, A130, H⟩ := H
              replace H : (emendationlaw01_UtfJoins.j0 k a0 a1 a2 (t201 != 0)) = some r := H
              have A13 := Aside0.mk A130
              clear A130
              have H' := Aside0.mk H
              clear H
              go_wp2_with (first | ((with_reducible refine gate_callee (f := 10) rfl ?_); refine goesL_ (some 13) rfl rfl Tryd.func10 (by kernel_rfl) rfl #[] rfl (by (try simp only [List.map_toArray, List.map_cons, List.map_nil]); first | done | rfl | (simp only [List.length_drop, List.length_take]; rfl)) ?_; (with_reducible refine (emendationlaw01_awake.calls  true _ ?side1 A5.out).mono ?_); (case side1 => first | exact HT.out | exact Tabs.at HT.out (by repeat (first | (with_reducible first | exact HB.out | apply below_alloc | apply pw_below_drewN | apply below_drew1) | exact HB.out))); rintro e w14 ⟨rfl, hb⟩; refine ⟨_, rfl, ?_⟩; have n0_ := Aside0.mk (below_step (by repeat (first | (with_reducible first | exact HB.out | apply below_alloc | apply pw_below_drewN | apply below_drew1) | exact HB.out)) hb); clear HB; have HB := n0_; clear n0_; (try clear hb); (try clear hb2); (try clear hk); (try clear hi)) | ((with_reducible refine gate_dst (N := 25) rfl ?_); (try (refine gate_guard (by rfl) ?_; dsimp only)); refine Kd.V_conv _ 5 rfl (N := 25) rfl 9 25 _ rfl a0 rfl Tryd.underlying9 Tryd.underlying25 Tryd.underlying5 (of_decide_eq_true (by first | (with_reducible assumption) | assumption | rfl)) (Below.refl _ _) (Nat.le_refl _) ?_; intro v195 w15 ho16 hb hg_ hnew_; clear hg_ hnew_; (first | rw [← Ny194.out] at ho16 | (simp only [Int.reduceToNat] at ho16; rw [← Ny194.out] at ho16)); have n0_ := Aside0.mk (Kd.V_lower (Kd.V_mono (ok' := fun k_ => True) ho16 (fun k_ hk_ => trivial)) (below_size (by repeat (first | (with_reducible first | exact HB.out | apply below_alloc | apply pw_below_drewN | apply below_drew1) | exact HB.out)))); have n1_ := Aside0.mk (below_step (by repeat (first | (with_reducible first | exact HB.out | apply below_alloc | apply pw_below_drewN | apply below_drew1) | exact HB.out)) hb); clear HB; have HO196 := n0_; have HB := n1_; clear n0_ n1_; clear hb ho16; obtain ⟨Ao17, co17, eo17⟩ := Kd.V_slice HO196.out; subst eo17; have tkA10 : True := trivial) | (go_at_call 11; clear tkA10; (with_reducible refine (utf_Check.calls _ _ y194 t197 _ ?side3 ?side1 ?side2 A10.out).mono ?_); (case side1 => repeat (first | exact (Kd.V_reads' HO196.out).2.2 | (with_reducible refine Kd.C_alloc ?_ _) | (with_reducible refine Kd.C_drewN ?_ _) | (with_reducible refine Kd.C_drew ?_))); (case side2 => exact (Kd.V_reads' HO196.out).2.1); (case side3 => first | exact HT.out | exact Tabs.at HT.out (by repeat (first | (with_reducible first | exact HB.out | apply below_alloc | apply pw_below_drewN | apply below_drew1) | exact HB.out))); rintro e w18 ⟨rfl, hb⟩; have n0_ := Aside0.mk (Kd.V_below (by (with_reducible repeat (first | apply Kd.V_alloc | apply Kd.V_drewN | apply Kd.V_drew)); exact HO196.out) hb); have n1_ := Aside0.mk (below_step (by repeat (first | (with_reducible first | exact HB.out | apply below_alloc | apply pw_below_drewN | apply below_drew1) | exact HB.out)) hb); clear HO196; clear HB; have HO196 := n0_; have HB := n1_; clear n0_ n1_; (try clear hb); (try clear hb2); (try clear hk); (try clear hi)) | ((with_reducible refine gate_dst (N := 31) rfl ?_); (try (refine gate_guard (by rfl) ?_; dsimp only)); refine Kd.V_conv _ 5 rfl (N := 31) rfl 9 25 _ rfl a1 rfl Tryd.underlying9 Tryd.underlying25 Tryd.underlying5 (of_decide_eq_true (by first | (with_reducible assumption) | assumption | rfl)) (Below.refl _ _) (Nat.le_refl _) ?_; intro v199 w19 ho20 hb hg_ hnew_; clear hg_ hnew_; (first | rw [← Ny198.out] at ho20 | (simp only [Int.reduceToNat] at ho20; rw [← Ny198.out] at ho20)); have n0_ := Aside0.mk (Kd.V_below (by (with_reducible repeat (first | apply Kd.V_alloc | apply Kd.V_drewN | apply Kd.V_drew)); exact HO196.out) hb); have n1_ := Aside0.mk (Kd.V_lower (Kd.V_mono (ok' := fun k_ => True) ho20 (fun k_ hk_ => trivial)) (below_size (by repeat (first | (with_reducible first | exact HB.out | apply below_alloc | apply pw_below_drewN | apply below_drew1) | exact HB.out)))); have n2_ := Aside0.mk (below_step (by repeat (first | (with_reducible first | exact HB.out | apply below_alloc | apply pw_below_drewN | apply below_drew1) | exact HB.out)) hb); clear HO196; clear HB; have HO196 := n0_; have HO200 := n1_; have HB := n2_; clear n0_ n1_ n2_; clear hb ho20; obtain ⟨Ao21, co21, eo21⟩ := Kd.V_slice HO200.out; subst eo21; have tkA13 : True := trivial) | (go_at_call 11; clear tkA13; (with_reducible refine (utf_Check.calls _ _ y198 t201 _ ?side3 ?side1 ?side2 A13.out).mono ?_); (case side1 => repeat (first | exact (Kd.V_reads' HO200.out).2.2 | (with_reducible refine Kd.C_alloc ?_ _) | (with_reducible refine Kd.C_drewN ?_ _) | (with_reducible refine Kd.C_drew ?_))); (case side2 => exact (Kd.V_reads' HO200.out).2.1); (case side3 => first | exact HT.out | exact Tabs.at HT.out (by repeat (first | (with_reducible first | exact HB.out | apply below_alloc | apply pw_below_drewN | apply below_drew1) | exact HB.out))); rintro e w22 ⟨rfl, hb⟩; have n0_ := Aside0.mk (Kd.V_below (by (with_reducible repeat (first | apply Kd.V_alloc | apply Kd.V_drewN | apply Kd.V_drew)); exact HO196.out) hb); have n1_ := Aside0.mk (Kd.V_below (by (with_reducible repeat (first | apply Kd.V_alloc | apply Kd.V_drewN | apply Kd.V_drew)); exact HO200.out) hb); have n2_ := Aside0.mk (below_step (by repeat (first | (with_reducible first | exact HB.out | apply below_alloc | apply pw_below_drewN | apply below_drew1) | exact HB.out)) hb); clear HO196; clear HO200; clear HB; have HO196 := n0_; have HO200 := n1_; have HB := n2_; clear n0_ n1_ n2_; (try clear hb); (try clear hb2); (try clear hk); (try clear hi)))
              go_meet
              case rel => exact ⟨_, ((t201 != 0)), (by first | rfl | (simp; done) | (simp [*]; done) | (simp [bne, beq_nil_E]; done)), H', ⟨by first | omega | exact Nat.le_refl _⟩, ⟨by repeat (first | (with_reducible first | exact HB.out | apply below_alloc | apply pw_below_drewN | apply below_drew1) | exact HB.out)⟩⟩
            · rw [if_neg c12] at H
              exact absurd H (by simp)
          · rw [if_neg c11] at H
            have c11b0 : (t197 == 0) = false := beq_eq_false_iff_ne.mpr c11
            have c11b1 : (t197 != 0) = true := bne_iff_ne.mpr c11
            have H' := Aside0.mk H
            clear H
            go_wp2_with (first | ((with_reducible refine gate_callee (f := 10) rfl ?_); refine goesL_ (some 13) rfl rfl Tryd.func10 (by kernel_rfl) rfl #[] rfl (by (try simp only [List.map_toArray, List.map_cons, List.map_nil]); first | done | rfl | (simp only [List.length_drop, List.length_take]; rfl)) ?_; (with_reducible refine (emendationlaw01_awake.calls  true _ ?side1 A5.out).mono ?_); (case side1 => first | exact HT.out | exact Tabs.at HT.out (by repeat (first | (with_reducible first | exact HB.out | apply below_alloc | apply pw_below_drewN | apply below_drew1) | exact HB.out))); rintro e w23 ⟨rfl, hb⟩; refine ⟨_, rfl, ?_⟩; have n0_ := Aside0.mk (below_step (by repeat (first | (with_reducible first | exact HB.out | apply below_alloc | apply pw_below_drewN | apply below_drew1) | exact HB.out)) hb); clear HB; have HB := n0_; clear n0_; (try clear hb); (try clear hb2); (try clear hk); (try clear hi)) | ((with_reducible refine gate_dst (N := 25) rfl ?_); (try (refine gate_guard (by rfl) ?_; dsimp only)); refine Kd.V_conv _ 5 rfl (N := 25) rfl 9 25 _ rfl a0 rfl Tryd.underlying9 Tryd.underlying25 Tryd.underlying5 (of_decide_eq_true (by first | (with_reducible assumption) | assumption | rfl)) (Below.refl _ _) (Nat.le_refl _) ?_; intro v195 w24 ho25 hb hg_ hnew_; clear hg_ hnew_; (first | rw [← Ny194.out] at ho25 | (simp only [Int.reduceToNat] at ho25; rw [← Ny194.out] at ho25)); have n0_ := Aside0.mk (Kd.V_lower (Kd.V_mono (ok' := fun k_ => True) ho25 (fun k_ hk_ => trivial)) (below_size (by repeat (first | (with_reducible first | exact HB.out | apply below_alloc | apply pw_below_drewN | apply below_drew1) | exact HB.out)))); have n1_ := Aside0.mk (below_step (by repeat (first | (with_reducible first | exact HB.out | apply below_alloc | apply pw_below_drewN | apply below_drew1) | exact HB.out)) hb); clear HB; have HO196 := n0_; have HB := n1_; clear n0_ n1_; clear hb ho25; obtain ⟨Ao26, co26, eo26⟩ := Kd.V_slice HO196.out; subst eo26; have tkA10 : True := trivial) | (go_at_call 11; clear tkA10; (with_reducible refine (utf_Check.calls _ _ y194 t197 _ ?side3 ?side1 ?side2 A10.out).mono ?_); (case side1 => repeat (first | exact (Kd.V_reads' HO196.out).2.2 | (with_reducible refine Kd.C_alloc ?_ _) | (with_reducible refine Kd.C_drewN ?_ _) | (with_reducible refine Kd.C_drew ?_))); (case side2 => exact (Kd.V_reads' HO196.out).2.1); (case side3 => first | exact HT.out | exact Tabs.at HT.out (by repeat (first | (with_reducible first | exact HB.out | apply below_alloc | apply pw_below_drewN | apply below_drew1) | exact HB.out))); rintro e w27 ⟨rfl, hb⟩; have n0_ := Aside0.mk (Kd.V_below (by (with_reducible repeat (first | apply Kd.V_alloc | apply Kd.V_drewN | apply Kd.V_drew)); exact HO196.out) hb); have n1_ := Aside0.mk (below_step (by repeat (first | (with_reducible first | exact HB.out | apply below_alloc | apply pw_below_drewN | apply below_drew1) | exact HB.out)) hb); clear HO196; clear HB; have HO196 := n0_; have HB := n1_; clear n0_ n1_; (try clear hb); (try clear hb2); (try clear hk); (try clear hi)))
            go_meet
            case rel => exact ⟨_, (true), (by first | rfl | (simp; done) | (simp [*]; done) | (simp [bne, beq_nil_E]; done)), H', ⟨by first | omega | exact Nat.le_refl _⟩, ⟨by repeat (first | (with_reducible first | exact HB.out | apply below_alloc | apply pw_below_drewN | apply below_drew1) | exact HB.out)⟩⟩
        · rw [if_neg c9] at H
          exact absurd H (by simp)
    · replace c6 := Bool.eq_false_iff.mpr c6
      subst c6
      have H1 : (emendationlaw01_UtfJoins.j0 k a0 a1 a2 true) = some r := by rw [if_neg (show ¬ (false = true) by decide)] at H; exact H
      clear H
      have H := H1
      clear H1
      have H' := Aside0.mk H
      clear H
      go_wp2_with (first | ((with_reducible refine gate_callee (f := 10) rfl ?_); refine goesL_ (some 13) rfl rfl Tryd.func10 (by kernel_rfl) rfl #[] rfl (by (try simp only [List.map_toArray, List.map_cons, List.map_nil]); first | done | rfl | (simp only [List.length_drop, List.length_take]; rfl)) ?_; (with_reducible refine (emendationlaw01_awake.calls  false _ ?side1 A5.out).mono ?_); (case side1 => first | exact HT.out | exact Tabs.at HT.out (by repeat (first | (with_reducible first | exact HB.out | apply below_alloc | apply pw_below_drewN | apply below_drew1) | exact HB.out))); rintro e w28 ⟨rfl, hb⟩; refine ⟨_, rfl, ?_⟩; have n0_ := Aside0.mk (below_step (by repeat (first | (with_reducible first | exact HB.out | apply below_alloc | apply pw_below_drewN | apply below_drew1) | exact HB.out)) hb); clear HB; have HB := n0_; clear n0_; (try clear hb); (try clear hb2); (try clear hk); (try clear hi)))
      go_meet
      case rel => exact ⟨_, (true), (by first | rfl | (simp; done) | (simp [*]; done) | (simp [bne, beq_nil_E]; done)), H', ⟨by first | omega | exact Nat.le_refl _⟩, ⟨by repeat (first | (with_reducible first | exact HB.out | apply below_alloc | apply pw_below_drewN | apply below_drew1) | exact HB.out)⟩⟩
  case rest =>
    clear HC4
    try clear c1
    try clear p2
    try clear c6
    try clear p6
    try clear c7
    try clear c7b0
    try clear c9
    try clear c9b0
    try clear c9b1
    try clear c9b2
    try clear c10
    try clear c11
    try clear c11b0
    try clear c11b1
    try clear c12
    try clear c12b0
    try clear c12b1
    try clear c12b2
    obtain ⟨kq, x34_3, rfl, HA, HJ3, HB⟩ := hcut
    cases kq with
    | zero => exact absurd HA.out (by simp [emendationlaw01_UtfJoins.j0])
    | succ kj3 =>
      have H := HA.out
      clear HA
      simp only [emendationlaw01_UtfJoins.j0] at H
      by_cases c29 : x34_3 = true
      · subst c29
        have H1 : ((emendationlaw01_awake.f).bind fun t202 => (some t202)) = some r := by rw [if_pos rfl] at H; exact H
        clear H
        have H := H1
        clear H1
        replace H := Option.bind_eq_some_iff.mp H
        obtain ⟨t202, A300, H⟩ := H
        replace H : (some t202) = some r := H
        have A30 := Aside0.mk A300
        clear A300
        obtain rfl := Option.some.inj H
        go_wp2_with (first | ((with_reducible refine gate_callee (f := 10) rfl ?_); refine goesL_ (some 35) rfl rfl Tryd.func10 (by kernel_rfl) rfl #[] rfl (by (try simp only [List.map_toArray, List.map_cons, List.map_nil]); first | done | rfl | (simp only [List.length_drop, List.length_take]; rfl)) ?_; (with_reducible refine (emendationlaw01_awake.calls  t202 _ ?side1 A30.out).mono ?_); (case side1 => first | exact HT.out | exact Tabs.at HT.out (by repeat (first | (with_reducible first | exact HB.out | apply below_alloc | apply pw_below_drewN | apply below_drew1) | exact HB.out))); rintro e w31 ⟨rfl, hb⟩; refine ⟨_, rfl, ?_⟩; have n0_ := Aside0.mk (below_step (by repeat (first | (with_reducible first | exact HB.out | apply below_alloc | apply pw_below_drewN | apply below_drew1) | exact HB.out)) hb); clear HB; have HB := n0_; clear n0_; (try clear hb); (try clear hb2); (try clear hk); (try clear hi)))
        go_ret
        exact ⟨by first | rfl | (simp [errW_none, errW_some] <;> rfl) | (simp [*, errW_none, errW_some] <;> rfl), by repeat (first | (with_reducible first | exact HB.out | apply below_alloc | apply pw_below_drewN | apply below_drew1) | exact HB.out)⟩
      · replace c29 := Bool.eq_false_iff.mpr c29
        subst c29
        have H1 : (if a0.size + a1.size ≤ 9223372036854775807 then (if (IntKind.u64.wrap (wrap64 (((a0 ++ a1).size : Int) + 1))) = 0 then (none) else (emendationlaw01_UtfJoins.l0 kj3 (a0 ++ a1) (wrap64 (Int.tmod a2 (IntKind.u64.wrap (wrap64 (((a0 ++ a1).size : Int) + 1))))) 0)) else (none)) = some r := by rw [if_neg (show ¬ (false = true) by decide)] at H; exact H
        clear H
        have H := H1
        clear H1
        by_cases c32 : a0.size + a1.size ≤ 9223372036854775807
        · rw [if_pos c32] at H
          have c32b0 := eq_true c32
          have c32b1 : decide (a0.size + a1.size ≤ 9223372036854775807) = true := decide_eq_true c32
          try have c32b2 : (9223372036854775807 < a0.size + a1.size) = False := eq_false (Nat.not_lt.2 c32)
          by_cases c33 : (IntKind.u64.wrap (wrap64 (((a0 ++ a1).size : Int) + 1))) = 0
          · rw [if_pos c33] at H
            exact absurd H (by simp)
          · rw [if_neg c33] at H
            have c33b0 : ((IntKind.u64.wrap (wrap64 (((a0 ++ a1).size : Int) + 1))) == 0) = false := beq_eq_false_iff_ne.mpr c33
            have c33b1 : ((IntKind.u64.wrap (wrap64 (((a0 ++ a1).size : Int) + 1))) != 0) = true := bne_iff_ne.mpr c33
            (try (have c33z := c33; simp only [ByteArray.size_append, Int.natCast_add] at c33z; have c33zt := eq_false c33z))
            (try (have c33b0z := c33b0; simp only [ByteArray.size_append, Int.natCast_add] at c33b0z))
            (try (have c33b1z := c33b1; simp only [ByteArray.size_append, Int.natCast_add] at c33b1z))
            have H' := Aside0.mk H
            clear H
            go_wp2
            go_loopg [9] kj3 (fun kq v9 w' => ∃ (x9_2 : Int), v9 = .int .i64 x9_2 ∧ Aside0 (emendationlaw01_UtfJoins.l0 kq (a0 ++ a1) (wrap64 (Int.tmod a2 (IntKind.u64.wrap (wrap64 (((a0 ++ a1).size : Int) + 1))))) x9_2 = some r) ∧ Aside0 (kq ≤ kj3) ∧ Aside0 (Below w.heap.size w w'))
            case atStart => exact ⟨(0), (by first | rfl | (simp; done) | (simp [*]; done) | (simp [bne, beq_nil_E]; done)), H', ⟨Nat.le_refl _⟩, ⟨by repeat (first | (with_reducible first | exact HB.out | apply below_alloc | apply pw_below_drewN | apply below_drew1) | exact HB.out)⟩⟩
            case round =>
              clear H'
              try clear c1
              try clear c2
              try clear p2
              try clear c3
              try clear c6
              try clear p6
              try clear c7
              try clear c7b0
              try clear c9
              try clear c9b0
              try clear c9b1
              try clear c9b2
              try clear c10
              try clear c11
              try clear c11b0
              try clear c11b1
              try clear c12
              try clear c12b0
              try clear c12b1
              try clear c12b2
              try clear c29
              try clear c32
              try clear c32b0
              try clear c32b1
              try clear c32b2
              try clear c33
              try clear c33b0
              try clear c33b1
              try clear p2
              try clear p6
              obtain ⟨x9_2, rfl, HA, HK2, HB⟩ := hrel
              cases gk with
              | zero => exact absurd HA.out (by simp [emendationlaw01_UtfJoins.l0])
              | succ k2 =>
                have H := HA.out
                clear HA
                simp only [emendationlaw01_UtfJoins.l0] at H
                by_cases c34 : x9_2 < (wrap64 (Int.tmod a2 (IntKind.u64.wrap (wrap64 (((a0 ++ a1).size : Int) + 1)))))
                · rw [if_pos c34] at H
                  have c34b0 : decide (x9_2 < (wrap64 (Int.tmod a2 (IntKind.u64.wrap (wrap64 (((a0 ++ a1).size : Int) + 1)))))) = true := decide_eq_true c34
                  (try (have c34b0z := c34b0; simp only [ByteArray.size_append, Int.natCast_add] at c34b0z))
                  clear c34
                  replace H := Option.bind_eq_some_iff.mp H
                  obtain ⟨⟨t203, t204⟩, A350, H⟩ := H
                  replace H : (if t204 = 0 then (some false) else (emendationlaw01_UtfJoins.l0 k2 (a0 ++ a1) (wrap64 (Int.tmod a2 (IntKind.u64.wrap (wrap64 (((a0 ++ a1).size : Int) + 1))))) (wrap64 (x9_2 + t204)))) = some r := H
                  have A35 := Aside0.mk A350
                  clear A350
                  by_cases c36 : t204 = 0
                  · rw [if_pos c36] at H
                    have c36b0 : (t204 == 0) = true := beq_iff_eq.mpr c36
                    have c36b1 : (t204 != 0) = false := bne_eq_false_iff_eq.mpr c36
                    clear c36
                    obtain rfl := Option.some.inj H
                    go_wp2_with (first | ((with_reducible refine gate_callee (f := 13) rfl ?_); refine goesL_ (some 52) rfl rfl Tryd.func13 (by kernel_rfl) rfl #[.string (a0 ++ a1), .int .i64 x9_2] rfl (by (try simp only [List.map_toArray, List.map_cons, List.map_nil]); first | done | rfl | (simp only [List.length_drop, List.length_take]; rfl)) ?_; (with_reducible refine (utf_Next.calls k2 (a0 ++ a1) x9_2 t203 t204 _ ?side1 A35.out).mono ?_); (case side1 => first | exact HT.out | exact Tabs.at HT.out (by repeat (first | (with_reducible first | exact HB.out | apply below_alloc | apply pw_below_drewN | apply below_drew1) | exact HB.out))); rintro e w37 ⟨rfl, hb⟩; refine ⟨_, rfl, ?_⟩; have n0_ := Aside0.mk (below_step (by repeat (first | (with_reducible first | exact HB.out | apply below_alloc | apply pw_below_drewN | apply below_drew1) | exact HB.out)) hb); clear HB; have HB := n0_; clear n0_; (try clear hb); (try clear hb2); (try clear hk); (try clear hi)))
                    go_ret
                    exact ⟨by first | rfl | (simp [errW_none, errW_some] <;> rfl) | (simp [*, errW_none, errW_some] <;> rfl), by repeat (first | (with_reducible first | exact HB.out | apply below_alloc | apply pw_below_drewN | apply below_drew1) | exact HB.out)⟩
                  · rw [if_neg c36] at H
                    have c36b0 : (t204 == 0) = false := beq_eq_false_iff_ne.mpr c36
                    have c36b1 : (t204 != 0) = true := bne_iff_ne.mpr c36
                    have H' := Aside0.mk H
                    clear H
                    go_wp2_with (first | ((with_reducible refine gate_callee (f := 13) rfl ?_); refine goesL_ (some 52) rfl rfl Tryd.func13 (by kernel_rfl) rfl #[.string (a0 ++ a1), .int .i64 x9_2] rfl (by (try simp only [List.map_toArray, List.map_cons, List.map_nil]); first | done | rfl | (simp only [List.length_drop, List.length_take]; rfl)) ?_; (with_reducible refine (utf_Next.calls k2 (a0 ++ a1) x9_2 t203 t204 _ ?side1 A35.out).mono ?_); (case side1 => first | exact HT.out | exact Tabs.at HT.out (by repeat (first | (with_reducible first | exact HB.out | apply below_alloc | apply pw_below_drewN | apply below_drew1) | exact HB.out))); rintro e w38 ⟨rfl, hb⟩; refine ⟨_, rfl, ?_⟩; have n0_ := Aside0.mk (below_step (by repeat (first | (with_reducible first | exact HB.out | apply below_alloc | apply pw_below_drewN | apply below_drew1) | exact HB.out)) hb); clear HB; have HB := n0_; clear n0_; (try clear hb); (try clear hb2); (try clear hk); (try clear hi)))
                    go_roundg k2
                    case measure => have := HJ3.out; have := HK2.out; omega
                    case rel => exact ⟨(wrap64 (x9_2 + t204)), (by first | rfl | (simp; done) | (simp [*]; done) | (simp [bne, beq_nil_E]; done)), H', ⟨by have := HJ3.out; have := HK2.out; omega⟩, ⟨by repeat (first | (with_reducible first | exact HB.out | apply below_alloc | apply pw_below_drewN | apply below_drew1) | exact HB.out)⟩⟩
                · rw [if_neg c34] at H
                  have c34b0 : decide (x9_2 < (wrap64 (Int.tmod a2 (IntKind.u64.wrap (wrap64 (((a0 ++ a1).size : Int) + 1)))))) = false := decide_eq_false c34
                  (try (have c34b0z := c34b0; simp only [ByteArray.size_append, Int.natCast_add] at c34b0z))
                  clear c34
                  by_cases c39 : (a0 ++ a1).size ≤ 9223372036854775807
                  · rw [if_pos c39] at H
                    have c39b0 := eq_true c39
                    have c39b1 : decide ((a0 ++ a1).size ≤ 9223372036854775807) = true := decide_eq_true c39
                    try have c39b2 : (9223372036854775807 < (a0 ++ a1).size) = False := eq_false (Nat.not_lt.2 c39)
                    (try (have c39s := c39; simp only [ByteArray.size_append] at c39s; have c39s0 := eq_true c39s; have c39s1 := decide_eq_true c39s; have c39s2 := eq_false (Nat.not_lt.2 c39s); clear c39s))
                    obtain ⟨y205, hy205⟩ : ∃ y_ : List Int, y_ = (bytesOf (a0 ++ a1)) := ⟨_, rfl⟩
                    replace H : ((utf_Check.f y205).bind fun t208 => (if t208 = 0 then (if 0 ≤ (wrap64 (Int.tmod a2 (IntKind.u64.wrap (wrap64 (((a0 ++ a1).size : Int) + 1))))) then (if (wrap64 (Int.tmod a2 (IntKind.u64.wrap (wrap64 (((a0 ++ a1).size : Int) + 1))))) ≤ ((a0 ++ a1).size : Int) then (if ((a0 ++ a1).extract 0 ((wrap64 (Int.tmod a2 (IntKind.u64.wrap (wrap64 (((a0 ++ a1).size : Int) + 1))))) : Int).toNat).size ≤ 9223372036854775807 then ((utf_Check.f (bytesOf ((a0 ++ a1).extract 0 ((wrap64 (Int.tmod a2 (IntKind.u64.wrap (wrap64 (((a0 ++ a1).size : Int) + 1))))) : Int).toNat))).bind fun t212 => (if ((t212 == 0) == (x9_2 == (wrap64 (Int.tmod a2 (IntKind.u64.wrap (wrap64 (((a0 ++ a1).size : Int) + 1))))))) = true then (if ((a0 ++ a1).extract ((wrap64 (Int.tmod a2 (IntKind.u64.wrap (wrap64 (((a0 ++ a1).size : Int) + 1))))) : Int).toNat (a0 ++ a1).size).size ≤ 9223372036854775807 then ((utf_Check.f (bytesOf ((a0 ++ a1).extract ((wrap64 (Int.tmod a2 (IntKind.u64.wrap (wrap64 (((a0 ++ a1).size : Int) + 1))))) : Int).toNat (a0 ++ a1).size))).bind fun t216 => (some ((t216 == 0) == (x9_2 == (wrap64 (Int.tmod a2 (IntKind.u64.wrap (wrap64 (((a0 ++ a1).size : Int) + 1))))))))) else (none)) else (some false))) else (none)) else (none)) else (none)) else (some false))) = some r := by first | (rw [hy205]; with_reducible exact H) | (have H2_ := (Option.bind_some _ _).symm.trans H; rw [hy205]; with_reducible exact H2_) | (have H2_ := (Option.bind_some _ _).symm.trans H; with_reducible exact H2_) | with_reducible exact H | (rw [hy205]; exact H) | exact H
                    have Ny205 := Aside0.mk hy205
                    clear hy205
                    replace H := Option.bind_eq_some_iff.mp H
                    obtain ⟨t208, A400, H⟩ := H
                    replace H : (if t208 = 0 then (if 0 ≤ (wrap64 (Int.tmod a2 (IntKind.u64.wrap (wrap64 (((a0 ++ a1).size : Int) + 1))))) then (if (wrap64 (Int.tmod a2 (IntKind.u64.wrap (wrap64 (((a0 ++ a1).size : Int) + 1))))) ≤ ((a0 ++ a1).size : Int) then (if ((a0 ++ a1).extract 0 ((wrap64 (Int.tmod a2 (IntKind.u64.wrap (wrap64 (((a0 ++ a1).size : Int) + 1))))) : Int).toNat).size ≤ 9223372036854775807 then ((utf_Check.f (bytesOf ((a0 ++ a1).extract 0 ((wrap64 (Int.tmod a2 (IntKind.u64.wrap (wrap64 (((a0 ++ a1).size : Int) + 1))))) : Int).toNat))).bind fun t212 => (if ((t212 == 0) == (x9_2 == (wrap64 (Int.tmod a2 (IntKind.u64.wrap (wrap64 (((a0 ++ a1).size : Int) + 1))))))) = true then (if ((a0 ++ a1).extract ((wrap64 (Int.tmod a2 (IntKind.u64.wrap (wrap64 (((a0 ++ a1).size : Int) + 1))))) : Int).toNat (a0 ++ a1).size).size ≤ 9223372036854775807 then ((utf_Check.f (bytesOf ((a0 ++ a1).extract ((wrap64 (Int.tmod a2 (IntKind.u64.wrap (wrap64 (((a0 ++ a1).size : Int) + 1))))) : Int).toNat (a0 ++ a1).size))).bind fun t216 => (some ((t216 == 0) == (x9_2 == (wrap64 (Int.tmod a2 (IntKind.u64.wrap (wrap64 (((a0 ++ a1).size : Int) + 1))))))))) else (none)) else (some false))) else (none)) else (none)) else (none)) else (some false)) = some r := H
                    have A40 := Aside0.mk A400
                    clear A400
                    by_cases c41 : t208 = 0
                    · rw [if_pos c41] at H
                      have c41b0 : (t208 == 0) = true := beq_iff_eq.mpr c41
                      have c41b1 : (t208 != 0) = false := bne_eq_false_iff_eq.mpr c41
                      clear c41
                      obtain ⟨ji42, hji42⟩ : ∃ j_ : Int, (wrap64 (Int.tmod a2 (IntKind.u64.wrap (wrap64 (((a0 ++ a1).size : Int) + 1))))) = j_ := ⟨_, rfl⟩
                      replace H : (if 0 ≤ (ji42) then (if (ji42) ≤ ((a0 ++ a1).size : Int) then (if ((a0 ++ a1).extract 0 ((ji42) : Int).toNat).size ≤ 9223372036854775807 then ((utf_Check.f (bytesOf ((a0 ++ a1).extract 0 ((ji42) : Int).toNat))).bind fun t212 => (if ((t212 == 0) == (x9_2 == (ji42))) = true then (if ((a0 ++ a1).extract ((ji42) : Int).toNat (a0 ++ a1).size).size ≤ 9223372036854775807 then ((utf_Check.f (bytesOf ((a0 ++ a1).extract ((ji42) : Int).toNat (a0 ++ a1).size))).bind fun t216 => (some ((t216 == 0) == (x9_2 == (ji42))))) else (none)) else (some false))) else (none)) else (none)) else (none)) = some r := by first | (rw [hji42] at H; exact H) | (simp only [hji42] at H ⊢; exact H)
                      (try rw [hji42] at c34b0)
                      (try rw [hji42] at A40)
                      have hji42w : (IntKind.i64.wrap (Int.tmod a2 (IntKind.u64.wrap (wrap64 (((a0 ++ a1).size : Int) + 1))))) = ji42 := (i64_w _).trans hji42
                      (try (have hji42z := hji42; simp only [ByteArray.size_append, Int.natCast_add] at hji42z; have hji42zw := (i64_w _).trans hji42z))
                      by_cases c43 : 0 ≤ (ji42)
                      · rw [if_pos c43] at H
                        have c43b0 := eq_true c43
                        have c43b1 : decide (0 ≤ (ji42)) = true := decide_eq_true c43
                        clear c43
                        by_cases c44 : (ji42) ≤ ((a0 ++ a1).size : Int)
                        · rw [if_pos c44] at H
                          have c44b0 := eq_true c44
                          have c44b1 : decide ((ji42) ≤ ((a0 ++ a1).size : Int)) = true := decide_eq_true c44
                          (try (have c44s := c44; simp only [ByteArray.size_append] at c44s; have c44s0 := eq_true c44s; have c44s1 := decide_eq_true c44s; have c44s2 := eq_false (Nat.not_lt.2 c44s); clear c44s))
                          (try (have c44n := c44; simp only [ByteArray.size_append, Int.natCast_add] at c44n; have c44n0 := eq_true c44n; have c44n1 := decide_eq_true c44n; clear c44n))
                          by_cases c45 : ((a0 ++ a1).extract 0 ((ji42) : Int).toNat).size ≤ 9223372036854775807
                          · rw [if_pos c45] at H
                            have c45b0 := eq_true c45
                            have c45b1 : decide (((a0 ++ a1).extract 0 ((ji42) : Int).toNat).size ≤ 9223372036854775807) = true := decide_eq_true c45
                            try have c45b2 : (9223372036854775807 < ((a0 ++ a1).extract 0 ((ji42) : Int).toNat).size) = False := eq_false (Nat.not_lt.2 c45)
                            (try (have c45s := c45; simp only [ByteArray.size_append] at c45s; have c45s0 := eq_true c45s; have c45s1 := decide_eq_true c45s; have c45s2 := eq_false (Nat.not_lt.2 c45s); clear c45s))
                            (try (have c45n := c45; simp only [ByteArray.size_append, Int.natCast_add] at c45n; have c45n0 := eq_true c45n; have c45n1 := decide_eq_true c45n; clear c45n))
                            obtain ⟨y209, hy209⟩ : ∃ y_ : List Int, y_ = (bytesOf ((a0 ++ a1).extract 0 ((ji42) : Int).toNat)) := ⟨_, rfl⟩
                            replace H : ((utf_Check.f y209).bind fun t212 => (if ((t212 == 0) == (x9_2 == (ji42))) = true then (if ((a0 ++ a1).extract ((ji42) : Int).toNat (a0 ++ a1).size).size ≤ 9223372036854775807 then ((utf_Check.f (bytesOf ((a0 ++ a1).extract ((ji42) : Int).toNat (a0 ++ a1).size))).bind fun t216 => (some ((t216 == 0) == (x9_2 == (ji42))))) else (none)) else (some false))) = some r := by first | (rw [hy209]; with_reducible exact H) | (have H2_ := (Option.bind_some _ _).symm.trans H; rw [hy209]; with_reducible exact H2_) | (have H2_ := (Option.bind_some _ _).symm.trans H; with_reducible exact H2_) | with_reducible exact H | (rw [hy209]; exact H) | exact H
                            have Ny209 := Aside0.mk hy209
                            clear hy209
                            replace H := Option.bind_eq_some_iff.mp H
                            obtain ⟨t212, A460, H⟩ := H
                            replace H : (if ((t212 == 0) == (x9_2 == (ji42))) = true then (if ((a0 ++ a1).extract ((ji42) : Int).toNat (a0 ++ a1).size).size ≤ 9223372036854775807 then ((utf_Check.f (bytesOf ((a0 ++ a1).extract ((ji42) : Int).toNat (a0 ++ a1).size))).bind fun t216 => (some ((t216 == 0) == (x9_2 == (ji42))))) else (none)) else (some false)) = some r := H
                            have A46 := Aside0.mk A460
                            clear A460
                            by_cases c47 : ((t212 == 0) == (x9_2 == (ji42))) = true
                            · rw [if_pos c47] at H
                              have c47b0 : ((t212 == 0) == (x9_2 == (ji42))) = true := c47
                              (try (have c47b1 : decide ((t212 == 0) = (x9_2 == (ji42))) = true := by simpa using c47))
                              (try (have c47b2 : ((t212 == 0) == (x9_2 == (ji42))) = true := by simpa using c47))
                              clear c47
                              have c48b0 := eq_true (of_decide_eq_true (by first | (with_reducible assumption) | assumption) : 0 ≤ (ji42))
                              have c49b0 := eq_true (of_decide_eq_true (by first | (with_reducible assumption) | assumption) : (ji42) ≤ ((a0 ++ a1).size : Int))
                              by_cases c50 : ((a0 ++ a1).extract ((ji42) : Int).toNat (a0 ++ a1).size).size ≤ 9223372036854775807
                              · rw [if_pos c50] at H
                                have c50b0 := eq_true c50
                                have c50b1 : decide (((a0 ++ a1).extract ((ji42) : Int).toNat (a0 ++ a1).size).size ≤ 9223372036854775807) = true := decide_eq_true c50
                                try have c50b2 : (9223372036854775807 < ((a0 ++ a1).extract ((ji42) : Int).toNat (a0 ++ a1).size).size) = False := eq_false (Nat.not_lt.2 c50)
                                (try (have c50s := c50; simp only [ByteArray.size_append] at c50s; have c50s0 := eq_true c50s; have c50s1 := decide_eq_true c50s; have c50s2 := eq_false (Nat.not_lt.2 c50s); clear c50s))
                                (try (have c50n := c50; simp only [ByteArray.size_append, Int.natCast_add] at c50n; have c50n0 := eq_true c50n; have c50n1 := decide_eq_true c50n; clear c50n))
                                obtain ⟨y213, hy213⟩ : ∃ y_ : List Int, y_ = (bytesOf ((a0 ++ a1).extract ((ji42) : Int).toNat (a0 ++ a1).size)) := ⟨_, rfl⟩
                                replace H : ((utf_Check.f y213).bind fun t216 => (some ((t216 == 0) == (x9_2 == (ji42))))) = some r := by first | (rw [hy213]; with_reducible exact H) | (have H2_ := (Option.bind_some _ _).symm.trans H; rw [hy213]; with_reducible exact H2_) | (have H2_ := (Option.bind_some _ _).symm.trans H; with_reducible exact H2_) | with_reducible exact H | (rw [hy213]; exact H) | exact H
                                have Ny213 := Aside0.mk hy213
                                clear hy213
                                replace H := Option.bind_eq_some_iff.mp H
                                obtain ⟨t216, A510, H⟩ := H
                                replace H : (some ((t216 == 0) == (x9_2 == (ji42)))) = some r := H
                                have A51 := Aside0.mk A510
                                clear A510
                                obtain rfl := Option.some.inj H
                                go_wp2_with (first | ((with_reducible refine gate_dst (N := 64) rfl ?_); (try (refine gate_guard (by rfl) ?_; dsimp only)); refine Kd.V_conv _ 5 rfl (N := 64) rfl 9 25 _ rfl (a0 ++ a1) rfl Tryd.underlying9 Tryd.underlying25 Tryd.underlying5 (of_decide_eq_true (by first | (with_reducible assumption) | assumption | rfl)) (Below.refl _ _) (Nat.le_refl _) ?_; intro v206 w52 ho53 hb hg_ hnew_; clear hg_ hnew_; (first | rw [← Ny205.out] at ho53 | (simp only [Int.reduceToNat] at ho53; rw [← Ny205.out] at ho53)); have n0_ := Aside0.mk (Kd.V_lower (Kd.V_mono (ok' := fun k_ => True) ho53 (fun k_ hk_ => trivial)) (below_size (by repeat (first | (with_reducible first | exact HB.out | apply below_alloc | apply pw_below_drewN | apply below_drew1) | exact HB.out)))); have n1_ := Aside0.mk (below_step (by repeat (first | (with_reducible first | exact HB.out | apply below_alloc | apply pw_below_drewN | apply below_drew1) | exact HB.out)) hb); clear HB; have HO207 := n0_; have HB := n1_; clear n0_ n1_; clear hb ho53; obtain ⟨Ao54, co54, eo54⟩ := Kd.V_slice HO207.out; subst eo54) | ((with_reducible refine gate_callee (f := 11) rfl ?_); refine goesL_ (some 65) rfl rfl Tryd.func11 (by kernel_rfl) rfl #[.slice Ao54 y205.length co54] rfl (by (try simp only [List.map_toArray, List.map_cons, List.map_nil]); first | done | rfl | (simp only [List.length_drop, List.length_take]; rfl)) ?_; (with_reducible refine (utf_Check.calls _ _ y205 t208 _ ?side3 ?side1 ?side2 A40.out).mono ?_); (case side1 => repeat (first | exact (Kd.V_reads' HO207.out).2.2 | (with_reducible refine Kd.C_alloc ?_ _) | (with_reducible refine Kd.C_drewN ?_ _) | (with_reducible refine Kd.C_drew ?_))); (case side2 => exact (Kd.V_reads' HO207.out).2.1); (case side3 => first | exact HT.out | exact Tabs.at HT.out (by repeat (first | (with_reducible first | exact HB.out | apply below_alloc | apply pw_below_drewN | apply below_drew1) | exact HB.out))); rintro e w55 ⟨rfl, hb⟩; refine ⟨_, rfl, ?_⟩; have n0_ := Aside0.mk (Kd.V_below (by (with_reducible repeat (first | apply Kd.V_alloc | apply Kd.V_drewN | apply Kd.V_drew)); exact HO207.out) hb); have n1_ := Aside0.mk (below_step (by repeat (first | (with_reducible first | exact HB.out | apply below_alloc | apply pw_below_drewN | apply below_drew1) | exact HB.out)) hb); clear HO207; clear HB; have HO207 := n0_; have HB := n1_; clear n0_ n1_; (try clear hb); (try clear hb2); (try clear hk); (try clear hi)) | ((with_reducible refine gate_dst (N := 71) rfl ?_); (try (refine gate_guard (by rfl) ?_; dsimp only)); refine Kd.V_conv _ 5 rfl (N := 71) rfl 9 25 _ rfl ((a0 ++ a1).extract 0 ((ji42) : Int).toNat) rfl Tryd.underlying9 Tryd.underlying25 Tryd.underlying5 (of_decide_eq_true (by first | (with_reducible assumption) | assumption | rfl)) (Below.refl _ _) (Nat.le_refl _) ?_; intro v210 w56 ho57 hb hg_ hnew_; clear hg_ hnew_; (first | rw [← Ny209.out] at ho57 | (simp only [Int.reduceToNat] at ho57; rw [← Ny209.out] at ho57)); have n0_ := Aside0.mk (Kd.V_below (by (with_reducible repeat (first | apply Kd.V_alloc | apply Kd.V_drewN | apply Kd.V_drew)); exact HO207.out) hb); have n1_ := Aside0.mk (Kd.V_lower (Kd.V_mono (ok' := fun k_ => True) ho57 (fun k_ hk_ => trivial)) (below_size (by repeat (first | (with_reducible first | exact HB.out | apply below_alloc | apply pw_below_drewN | apply below_drew1) | exact HB.out)))); have n2_ := Aside0.mk (below_step (by repeat (first | (with_reducible first | exact HB.out | apply below_alloc | apply pw_below_drewN | apply below_drew1) | exact HB.out)) hb); clear HO207; clear HB; have HO207 := n0_; have HO211 := n1_; have HB := n2_; clear n0_ n1_ n2_; clear hb ho57; obtain ⟨Ao58, co58, eo58⟩ := Kd.V_slice HO211.out; subst eo58; have tkA46 : True := trivial) | (go_at_call 11; clear tkA46; (with_reducible refine (utf_Check.calls _ _ y209 t212 _ ?side3 ?side1 ?side2 A46.out).mono ?_); (case side1 => repeat (first | exact (Kd.V_reads' HO211.out).2.2 | (with_reducible refine Kd.C_alloc ?_ _) | (with_reducible refine Kd.C_drewN ?_ _) | (with_reducible refine Kd.C_drew ?_))); (case side2 => exact (Kd.V_reads' HO211.out).2.1); (case side3 => first | exact HT.out | exact Tabs.at HT.out (by repeat (first | (with_reducible first | exact HB.out | apply below_alloc | apply pw_below_drewN | apply below_drew1) | exact HB.out))); rintro e w59 ⟨rfl, hb⟩; have n0_ := Aside0.mk (Kd.V_below (by (with_reducible repeat (first | apply Kd.V_alloc | apply Kd.V_drewN | apply Kd.V_drew)); exact HO207.out) hb); have n1_ := Aside0.mk (Kd.V_below (by (with_reducible repeat (first | apply Kd.V_alloc | apply Kd.V_drewN | apply Kd.V_drew)); exact HO211.out) hb); have n2_ := Aside0.mk (below_step (by repeat (first | (with_reducible first | exact HB.out | apply below_alloc | apply pw_below_drewN | apply below_drew1) | exact HB.out)) hb); clear HO207; clear HO211; clear HB; have HO207 := n0_; have HO211 := n1_; have HB := n2_; clear n0_ n1_ n2_; (try clear hb); (try clear hb2); (try clear hk); (try clear hi)) | ((with_reducible refine gate_dst (N := 81) rfl ?_); (try (refine gate_guard (by rfl) ?_; dsimp only)); refine Kd.V_conv _ 5 rfl (N := 81) rfl 9 25 _ rfl ((a0 ++ a1).extract ((ji42) : Int).toNat (a0 ++ a1).size) (by first | rfl | (simp only [ByteArray.size_append]; rfl)) Tryd.underlying9 Tryd.underlying25 Tryd.underlying5 (of_decide_eq_true (by first | (with_reducible assumption) | assumption | rfl)) (Below.refl _ _) (Nat.le_refl _) ?_; intro v214 w60 ho61 hb hg_ hnew_; clear hg_ hnew_; (first | rw [← Ny213.out] at ho61 | (simp only [Int.reduceToNat] at ho61; rw [← Ny213.out] at ho61)); have n0_ := Aside0.mk (Kd.V_below (by (with_reducible repeat (first | apply Kd.V_alloc | apply Kd.V_drewN | apply Kd.V_drew)); exact HO207.out) hb); have n1_ := Aside0.mk (Kd.V_below (by (with_reducible repeat (first | apply Kd.V_alloc | apply Kd.V_drewN | apply Kd.V_drew)); exact HO211.out) hb); have n2_ := Aside0.mk (Kd.V_lower (Kd.V_mono (ok' := fun k_ => True) ho61 (fun k_ hk_ => trivial)) (below_size (by repeat (first | (with_reducible first | exact HB.out | apply below_alloc | apply pw_below_drewN | apply below_drew1) | exact HB.out)))); have n3_ := Aside0.mk (below_step (by repeat (first | (with_reducible first | exact HB.out | apply below_alloc | apply pw_below_drewN | apply below_drew1) | exact HB.out)) hb); clear HO207; clear HO211; clear HB; have HO207 := n0_; have HO211 := n1_; have HO215 := n2_; have HB := n3_; clear n0_ n1_ n2_ n3_; clear hb ho61; obtain ⟨Ao62, co62, eo62⟩ := Kd.V_slice HO215.out; subst eo62; have tkA51 : True := trivial) | (go_at_call 11; clear tkA51; (with_reducible refine (utf_Check.calls _ _ y213 t216 _ ?side3 ?side1 ?side2 A51.out).mono ?_); (case side1 => repeat (first | exact (Kd.V_reads' HO215.out).2.2 | (with_reducible refine Kd.C_alloc ?_ _) | (with_reducible refine Kd.C_drewN ?_ _) | (with_reducible refine Kd.C_drew ?_))); (case side2 => exact (Kd.V_reads' HO215.out).2.1); (case side3 => first | exact HT.out | exact Tabs.at HT.out (by repeat (first | (with_reducible first | exact HB.out | apply below_alloc | apply pw_below_drewN | apply below_drew1) | exact HB.out))); rintro e w63 ⟨rfl, hb⟩; have n0_ := Aside0.mk (Kd.V_below (by (with_reducible repeat (first | apply Kd.V_alloc | apply Kd.V_drewN | apply Kd.V_drew)); exact HO207.out) hb); have n1_ := Aside0.mk (Kd.V_below (by (with_reducible repeat (first | apply Kd.V_alloc | apply Kd.V_drewN | apply Kd.V_drew)); exact HO211.out) hb); have n2_ := Aside0.mk (Kd.V_below (by (with_reducible repeat (first | apply Kd.V_alloc | apply Kd.V_drewN | apply Kd.V_drew)); exact HO215.out) hb); have n3_ := Aside0.mk (below_step (by repeat (first | (with_reducible first | exact HB.out | apply below_alloc | apply pw_below_drewN | apply below_drew1) | exact HB.out)) hb); clear HO207; clear HO211; clear HO215; clear HB; have HO207 := n0_; have HO211 := n1_; have HO215 := n2_; have HB := n3_; clear n0_ n1_ n2_ n3_; (try clear hb); (try clear hb2); (try clear hk); (try clear hi)))
                                go_ret
                                exact ⟨by first | rfl | (simp [errW_none, errW_some] <;> rfl) | (simp only [← hji42]; first | rfl | (simp [errW_none, errW_some] <;> rfl)) | (simp [*, errW_none, errW_some] <;> rfl), by repeat (first | (with_reducible first | exact HB.out | apply below_alloc | apply pw_below_drewN | apply below_drew1) | exact HB.out)⟩
                              · rw [if_neg c50] at H
                                exact absurd H (by simp)
                            · rw [if_neg c47] at H
                              have c47b0 : ((t212 == 0) == (x9_2 == (ji42))) = false := by simpa using c47
                              (try (have c47b1 : decide ((t212 == 0) = (x9_2 == (ji42))) = false := by simpa using c47))
                              (try (have c47b2 : ((t212 == 0) == (x9_2 == (ji42))) = false := by simpa using c47))
                              (try (have c47b3 : ¬ ((t212 == 0) = (x9_2 == (ji42))) := by simpa using c47))
                              clear c47
                              obtain rfl := Option.some.inj H
                              go_wp2_with (first | ((with_reducible refine gate_dst (N := 64) rfl ?_); (try (refine gate_guard (by rfl) ?_; dsimp only)); refine Kd.V_conv _ 5 rfl (N := 64) rfl 9 25 _ rfl (a0 ++ a1) rfl Tryd.underlying9 Tryd.underlying25 Tryd.underlying5 (of_decide_eq_true (by first | (with_reducible assumption) | assumption | rfl)) (Below.refl _ _) (Nat.le_refl _) ?_; intro v206 w64 ho65 hb hg_ hnew_; clear hg_ hnew_; (first | rw [← Ny205.out] at ho65 | (simp only [Int.reduceToNat] at ho65; rw [← Ny205.out] at ho65)); have n0_ := Aside0.mk (Kd.V_lower (Kd.V_mono (ok' := fun k_ => True) ho65 (fun k_ hk_ => trivial)) (below_size (by repeat (first | (with_reducible first | exact HB.out | apply below_alloc | apply pw_below_drewN | apply below_drew1) | exact HB.out)))); have n1_ := Aside0.mk (below_step (by repeat (first | (with_reducible first | exact HB.out | apply below_alloc | apply pw_below_drewN | apply below_drew1) | exact HB.out)) hb); clear HB; have HO207 := n0_; have HB := n1_; clear n0_ n1_; clear hb ho65; obtain ⟨Ao66, co66, eo66⟩ := Kd.V_slice HO207.out; subst eo66) | ((with_reducible refine gate_callee (f := 11) rfl ?_); refine goesL_ (some 65) rfl rfl Tryd.func11 (by kernel_rfl) rfl #[.slice Ao66 y205.length co66] rfl (by (try simp only [List.map_toArray, List.map_cons, List.map_nil]); first | done | rfl | (simp only [List.length_drop, List.length_take]; rfl)) ?_; (with_reducible refine (utf_Check.calls _ _ y205 t208 _ ?side3 ?side1 ?side2 A40.out).mono ?_); (case side1 => repeat (first | exact (Kd.V_reads' HO207.out).2.2 | (with_reducible refine Kd.C_alloc ?_ _) | (with_reducible refine Kd.C_drewN ?_ _) | (with_reducible refine Kd.C_drew ?_))); (case side2 => exact (Kd.V_reads' HO207.out).2.1); (case side3 => first | exact HT.out | exact Tabs.at HT.out (by repeat (first | (with_reducible first | exact HB.out | apply below_alloc | apply pw_below_drewN | apply below_drew1) | exact HB.out))); rintro e w67 ⟨rfl, hb⟩; refine ⟨_, rfl, ?_⟩; have n0_ := Aside0.mk (Kd.V_below (by (with_reducible repeat (first | apply Kd.V_alloc | apply Kd.V_drewN | apply Kd.V_drew)); exact HO207.out) hb); have n1_ := Aside0.mk (below_step (by repeat (first | (with_reducible first | exact HB.out | apply below_alloc | apply pw_below_drewN | apply below_drew1) | exact HB.out)) hb); clear HO207; clear HB; have HO207 := n0_; have HB := n1_; clear n0_ n1_; (try clear hb); (try clear hb2); (try clear hk); (try clear hi)) | ((with_reducible refine gate_dst (N := 71) rfl ?_); (try (refine gate_guard (by rfl) ?_; dsimp only)); refine Kd.V_conv _ 5 rfl (N := 71) rfl 9 25 _ rfl ((a0 ++ a1).extract 0 ((ji42) : Int).toNat) rfl Tryd.underlying9 Tryd.underlying25 Tryd.underlying5 (of_decide_eq_true (by first | (with_reducible assumption) | assumption | rfl)) (Below.refl _ _) (Nat.le_refl _) ?_; intro v210 w68 ho69 hb hg_ hnew_; clear hg_ hnew_; (first | rw [← Ny209.out] at ho69 | (simp only [Int.reduceToNat] at ho69; rw [← Ny209.out] at ho69)); have n0_ := Aside0.mk (Kd.V_below (by (with_reducible repeat (first | apply Kd.V_alloc | apply Kd.V_drewN | apply Kd.V_drew)); exact HO207.out) hb); have n1_ := Aside0.mk (Kd.V_lower (Kd.V_mono (ok' := fun k_ => True) ho69 (fun k_ hk_ => trivial)) (below_size (by repeat (first | (with_reducible first | exact HB.out | apply below_alloc | apply pw_below_drewN | apply below_drew1) | exact HB.out)))); have n2_ := Aside0.mk (below_step (by repeat (first | (with_reducible first | exact HB.out | apply below_alloc | apply pw_below_drewN | apply below_drew1) | exact HB.out)) hb); clear HO207; clear HB; have HO207 := n0_; have HO211 := n1_; have HB := n2_; clear n0_ n1_ n2_; clear hb ho69; obtain ⟨Ao70, co70, eo70⟩ := Kd.V_slice HO211.out; subst eo70; have tkA46 : True := trivial) | (go_at_call 11; clear tkA46; (with_reducible refine (utf_Check.calls _ _ y209 t212 _ ?side3 ?side1 ?side2 A46.out).mono ?_); (case side1 => repeat (first | exact (Kd.V_reads' HO211.out).2.2 | (with_reducible refine Kd.C_alloc ?_ _) | (with_reducible refine Kd.C_drewN ?_ _) | (with_reducible refine Kd.C_drew ?_))); (case side2 => exact (Kd.V_reads' HO211.out).2.1); (case side3 => first | exact HT.out | exact Tabs.at HT.out (by repeat (first | (with_reducible first | exact HB.out | apply below_alloc | apply pw_below_drewN | apply below_drew1) | exact HB.out))); rintro e w71 ⟨rfl, hb⟩; have n0_ := Aside0.mk (Kd.V_below (by (with_reducible repeat (first | apply Kd.V_alloc | apply Kd.V_drewN | apply Kd.V_drew)); exact HO207.out) hb); have n1_ := Aside0.mk (Kd.V_below (by (with_reducible repeat (first | apply Kd.V_alloc | apply Kd.V_drewN | apply Kd.V_drew)); exact HO211.out) hb); have n2_ := Aside0.mk (below_step (by repeat (first | (with_reducible first | exact HB.out | apply below_alloc | apply pw_below_drewN | apply below_drew1) | exact HB.out)) hb); clear HO207; clear HO211; clear HB; have HO207 := n0_; have HO211 := n1_; have HB := n2_; clear n0_ n1_ n2_; (try clear hb); (try clear hb2); (try clear hk); (try clear hi)))
                              go_ret
                              exact ⟨by first | rfl | (simp [errW_none, errW_some] <;> rfl) | (simp only [← hji42]; first | rfl | (simp [errW_none, errW_some] <;> rfl)) | (simp [*, errW_none, errW_some] <;> rfl), by repeat (first | (with_reducible first | exact HB.out | apply below_alloc | apply pw_below_drewN | apply below_drew1) | exact HB.out)⟩
                          · rw [if_neg c45] at H
                            exact absurd H (by simp)
                        · rw [if_neg c44] at H
                          exact absurd H (by simp)
                      · rw [if_neg c43] at H
                        exact absurd H (by simp)
                    · rw [if_neg c41] at H
                      have c41b0 : (t208 == 0) = false := beq_eq_false_iff_ne.mpr c41
                      have c41b1 : (t208 != 0) = true := bne_iff_ne.mpr c41
                      obtain rfl := Option.some.inj H
                      go_wp2_with (first | ((with_reducible refine gate_dst (N := 64) rfl ?_); (try (refine gate_guard (by rfl) ?_; dsimp only)); refine Kd.V_conv _ 5 rfl (N := 64) rfl 9 25 _ rfl (a0 ++ a1) rfl Tryd.underlying9 Tryd.underlying25 Tryd.underlying5 (of_decide_eq_true (by first | (with_reducible assumption) | assumption | rfl)) (Below.refl _ _) (Nat.le_refl _) ?_; intro v206 w72 ho73 hb hg_ hnew_; clear hg_ hnew_; (first | rw [← Ny205.out] at ho73 | (simp only [Int.reduceToNat] at ho73; rw [← Ny205.out] at ho73)); have n0_ := Aside0.mk (Kd.V_lower (Kd.V_mono (ok' := fun k_ => True) ho73 (fun k_ hk_ => trivial)) (below_size (by repeat (first | (with_reducible first | exact HB.out | apply below_alloc | apply pw_below_drewN | apply below_drew1) | exact HB.out)))); have n1_ := Aside0.mk (below_step (by repeat (first | (with_reducible first | exact HB.out | apply below_alloc | apply pw_below_drewN | apply below_drew1) | exact HB.out)) hb); clear HB; have HO207 := n0_; have HB := n1_; clear n0_ n1_; clear hb ho73; obtain ⟨Ao74, co74, eo74⟩ := Kd.V_slice HO207.out; subst eo74) | ((with_reducible refine gate_callee (f := 11) rfl ?_); refine goesL_ (some 65) rfl rfl Tryd.func11 (by kernel_rfl) rfl #[.slice Ao74 y205.length co74] rfl (by (try simp only [List.map_toArray, List.map_cons, List.map_nil]); first | done | rfl | (simp only [List.length_drop, List.length_take]; rfl)) ?_; (with_reducible refine (utf_Check.calls _ _ y205 t208 _ ?side3 ?side1 ?side2 A40.out).mono ?_); (case side1 => repeat (first | exact (Kd.V_reads' HO207.out).2.2 | (with_reducible refine Kd.C_alloc ?_ _) | (with_reducible refine Kd.C_drewN ?_ _) | (with_reducible refine Kd.C_drew ?_))); (case side2 => exact (Kd.V_reads' HO207.out).2.1); (case side3 => first | exact HT.out | exact Tabs.at HT.out (by repeat (first | (with_reducible first | exact HB.out | apply below_alloc | apply pw_below_drewN | apply below_drew1) | exact HB.out))); rintro e w75 ⟨rfl, hb⟩; refine ⟨_, rfl, ?_⟩; have n0_ := Aside0.mk (Kd.V_below (by (with_reducible repeat (first | apply Kd.V_alloc | apply Kd.V_drewN | apply Kd.V_drew)); exact HO207.out) hb); have n1_ := Aside0.mk (below_step (by repeat (first | (with_reducible first | exact HB.out | apply below_alloc | apply pw_below_drewN | apply below_drew1) | exact HB.out)) hb); clear HO207; clear HB; have HO207 := n0_; have HB := n1_; clear n0_ n1_; (try clear hb); (try clear hb2); (try clear hk); (try clear hi)))
                      go_ret
                      exact ⟨by first | rfl | (simp [errW_none, errW_some] <;> rfl) | (simp [*, errW_none, errW_some] <;> rfl), by repeat (first | (with_reducible first | exact HB.out | apply below_alloc | apply pw_below_drewN | apply below_drew1) | exact HB.out)⟩
                  · rw [if_neg c39] at H
                    exact absurd H (by simp)
        · rw [if_neg c32] at H
          exact absurd H (by simp)

end Go.Proofs.YtmamjecpjookoaaDoor.X
