-- Written by a program of this session (wip/mkprint.py over the kit's print) out of the translation; Lean checks it.
import Derived.Test.YticaofendehebaaDoorX0
import Derived.Test.YticaofendehebaaDoorX7
import Derived.Test.YticaofendehebaaDoorX9
import Derived.Test.YticaofendehebaaDoorGivenTabs
namespace Go.Proofs.YticaofendehebaaDoor.X
open Go.RowKit Go.Proofs.YticaofendehebaaDoor.G Go.Proofs.YticaofendehebaaDoorW.PrintWords Go.Proofs.YticaofendehebaaDoorW.PrintLast Go.Proofs.YticaofendehebaaDoorW.PrintMore
attribute [local go_sem] max2_int min2_int max_two min_two max_three min_three max_four min_four   -- for this text's walks alone
set_option linter.unusedVariables false
set_option linter.unusedSimpArgs false

/-! ### emendationlaw11_KindFences: function 5 -/
mutual
def emendationlaw11_KindFences.j0 : Nat → Int → Int → ByteArray → Bool → Option (Bool)
 | 0, _, _, _, _ => none
 | k + 1, x0, x1, x2, x22 => if x22 = true then ((emendationlaw11_awake.f k).bind fun t171 => (some t171)) else (emendationlaw11_KindFences.l0 k x2 (Int.tmod (wrap64 (x0)) 20) (Int.tmod (wrap64 (x1)) 20) (⟨#[]⟩ : ByteArray) (Int.tmod (wrap64 (x0)) 20) 0)
def emendationlaw11_KindFences.l0 : Nat → ByteArray → Int → Int → ByteArray → Int → Int → Option (Bool)
 | 0, _, _, _, _, _, _ => none
 | k + 1, x2, x7, x8, x9, x30, x31 => if x31 < x30 then (if x9.size + 1 ≤ 9223372036854775807 then (emendationlaw11_KindFences.l0 k x2 x7 x8 (x9 ++ (⟨#[96]⟩ : ByteArray)) x30 (wrap64 (x31 + 1))) else (none)) else ((kind_Open.f k x9).bind fun bt172 => (if x7 ≥ 3 then (if ((bt172.1 == x7) != true) = true then (emendationlaw11_KindFences.j2 k x2 x7 x8 x9 true) else (if bt172.2.toList = ([] : List UInt8) then ((kind_Closes.f k x9 x8).bind fun t174 => (if x7 ≥ 1 then (emendationlaw11_KindFences.j2 k x2 x7 x8 x9 (t174 != (decide (x7 ≥ x8)))) else (emendationlaw11_KindFences.j2 k x2 x7 x8 x9 (t174 != false)))) else (emendationlaw11_KindFences.j2 k x2 x7 x8 x9 true))) else (if ((bt172.1 == x7) != (x7 == 0)) = true then (emendationlaw11_KindFences.j2 k x2 x7 x8 x9 true) else (if bt172.2.toList = ([] : List UInt8) then ((kind_Closes.f k x9 x8).bind fun t175 => (if x7 ≥ 1 then (emendationlaw11_KindFences.j2 k x2 x7 x8 x9 (t175 != (decide (x7 ≥ x8)))) else (emendationlaw11_KindFences.j2 k x2 x7 x8 x9 (t175 != false)))) else (emendationlaw11_KindFences.j2 k x2 x7 x8 x9 true)))))
def emendationlaw11_KindFences.j2 : Nat → ByteArray → Int → Int → ByteArray → Bool → Option (Bool)
 | 0, _, _, _, _, _ => none
 | k + 1, x2, x7, x8, x9, x67 => if x67 = true then (some false) else (if x9.size + 1 ≤ 9223372036854775807 then (if (x9 ++ (⟨#[120]⟩ : ByteArray)).size + x2.size ≤ 9223372036854775807 then ((kind_Open.f k ((x9 ++ (⟨#[120]⟩ : ByteArray)) ++ x2)).bind fun bt176 => (emendationlaw11_KindFences.l1 k x2 x7 x8 x9 bt176.1 bt176.2 true (x2.size : Int) 0)) else (none)) else (none))
def emendationlaw11_KindFences.l1 : Nat → ByteArray → Int → Int → ByteArray → Int → ByteArray → Bool → Int → Int → Option (Bool)
 | 0, _, _, _, _, _, _, _, _, _ => none
 | k + 1, x2, x7, x8, x9, x12, x13, x14, x77, x78 => if x78 < x77 then (if x14 = true then (if 0 ≤ x78 then (if x78 < (x2.size : Int) then (emendationlaw11_KindFences.l1 k x2 x7 x8 x9 x12 x13 ((bt x2 x78) != 96) x77 (wrap64 (x78 + 1))) else (none)) else (none)) else (emendationlaw11_KindFences.l1 k x2 x7 x8 x9 x12 x13 false x77 (wrap64 (x78 + 1)))) else (if x12 = x7 then (if x7 ≥ 3 then (if ((decide (x12 > 0)) == x14) = true then (if x12 = 0 then (if x9.size + 1 ≤ 9223372036854775807 then (if (x9 ++ (⟨#[120]⟩ : ByteArray)).size + x2.size ≤ 9223372036854775807 then ((kind_Closes.f k ((x9 ++ (⟨#[120]⟩ : ByteArray)) ++ x2) x8).bind fun t178 => (some (!t178))) else (none)) else (none)) else (if (x13.size : Int) ≥ 1 then (if 0 < (x13.size : Int) then (if (bt x13 0) = 120 then (if x9.size + 1 ≤ 9223372036854775807 then (if (x9 ++ (⟨#[120]⟩ : ByteArray)).size + x2.size ≤ 9223372036854775807 then ((kind_Closes.f k ((x9 ++ (⟨#[120]⟩ : ByteArray)) ++ x2) x8).bind fun t179 => (some (!t179))) else (none)) else (none)) else (some false)) else (none)) else (some false))) else (some false)) else (if ((decide (x12 > 0)) == false) = true then (if x12 = 0 then (if x9.size + 1 ≤ 9223372036854775807 then (if (x9 ++ (⟨#[120]⟩ : ByteArray)).size + x2.size ≤ 9223372036854775807 then ((kind_Closes.f k ((x9 ++ (⟨#[120]⟩ : ByteArray)) ++ x2) x8).bind fun t180 => (some (!t180))) else (none)) else (none)) else (if (x13.size : Int) ≥ 1 then (if 0 < (x13.size : Int) then (if (bt x13 0) = 120 then (if x9.size + 1 ≤ 9223372036854775807 then (if (x9 ++ (⟨#[120]⟩ : ByteArray)).size + x2.size ≤ 9223372036854775807 then ((kind_Closes.f k ((x9 ++ (⟨#[120]⟩ : ByteArray)) ++ x2) x8).bind fun t181 => (some (!t181))) else (none)) else (none)) else (some false)) else (none)) else (some false))) else (some false))) else (if x7 ≥ 3 then (if (false == x14) = true then (if x12 = 0 then (if x9.size + 1 ≤ 9223372036854775807 then (if (x9 ++ (⟨#[120]⟩ : ByteArray)).size + x2.size ≤ 9223372036854775807 then ((kind_Closes.f k ((x9 ++ (⟨#[120]⟩ : ByteArray)) ++ x2) x8).bind fun t182 => (some (!t182))) else (none)) else (none)) else (if (x13.size : Int) ≥ 1 then (if 0 < (x13.size : Int) then (if (bt x13 0) = 120 then (if x9.size + 1 ≤ 9223372036854775807 then (if (x9 ++ (⟨#[120]⟩ : ByteArray)).size + x2.size ≤ 9223372036854775807 then ((kind_Closes.f k ((x9 ++ (⟨#[120]⟩ : ByteArray)) ++ x2) x8).bind fun t183 => (some (!t183))) else (none)) else (none)) else (some false)) else (none)) else (some false))) else (some false)) else (if (false == false) = true then (if x12 = 0 then (if x9.size + 1 ≤ 9223372036854775807 then (if (x9 ++ (⟨#[120]⟩ : ByteArray)).size + x2.size ≤ 9223372036854775807 then ((kind_Closes.f k ((x9 ++ (⟨#[120]⟩ : ByteArray)) ++ x2) x8).bind fun t184 => (some (!t184))) else (none)) else (none)) else (if (x13.size : Int) ≥ 1 then (if 0 < (x13.size : Int) then (if (bt x13 0) = 120 then (if x9.size + 1 ≤ 9223372036854775807 then (if (x9 ++ (⟨#[120]⟩ : ByteArray)).size + x2.size ≤ 9223372036854775807 then ((kind_Closes.f k ((x9 ++ (⟨#[120]⟩ : ByteArray)) ++ x2) x8).bind fun t185 => (some (!t185))) else (none)) else (none)) else (some false)) else (none)) else (some false))) else (some false))))
end
def emendationlaw11_KindFences.f (k : Nat) (a0 : Int) (a1 : Int) (a2 : ByteArray) : Option (Bool) := (emendationlaw11_awake.f k).bind fun t170 => (if t170 = true then (emendationlaw11_KindFences.j0 k a0 a1 a2 (decide ((a2.size : Int) > 1000))) else (emendationlaw11_KindFences.j0 k a0 a1 a2 true))
set_option maxHeartbeats 8000000 in
set_option maxRecDepth 100000 in
theorem emendationlaw11_KindFences.calls (k : Nat) (a0 : Int) (a1 : Int) (a2 : ByteArray) (r : Bool) (w : World) (hT : Tabs w) (h : emendationlaw11_KindFences.f k a0 a1 a2 = some r) :
  Calls Tryd.prog 5 #[.int .u8 a0, .int .u8 a1, .string a2] w fun e w' => e = .returned (.bool r) ∧ Below w.heap.size w w' := by
 have HT := Aside0.mk hT
 clear hT
 have HB := Aside0.mk (Below.refl w.heap.size w)
 have H : ((emendationlaw11_awake.f k).bind fun t170 => (if t170 = true then (emendationlaw11_KindFences.j0 k a0 a1 a2 (decide ((a2.size : Int) > 1000))) else (emendationlaw11_KindFences.j0 k a0 a1 a2 true))) = some r := h
 clear h
 have HC4 := Aside0.mk H
 clear H
 go_enter Tryd.func5, Tryd.ntmps5
 go_upto_region 1 with (fail)
 go_cut [22] (fun v22 wc => ∃ (kq : Nat) (x22_3 : Bool), v22 = .bool x22_3 ∧ Aside0 (emendationlaw11_KindFences.j0 kq a0 a1 a2 x22_3 = some r) ∧ Aside0 (kq ≤ k) ∧ Aside0 (Below w.heap.size w wc))
 case first =>
  have H := HC4.out
  clear HC4
  replace H := Option.bind_eq_some_iff.mp H
  obtain ⟨t170, A50, H⟩ := H
  replace H : (if t170 = true then (emendationlaw11_KindFences.j0 k a0 a1 a2 (decide ((a2.size : Int) > 1000))) else (emendationlaw11_KindFences.j0 k a0 a1 a2 true)) = some r := H
  have A5 := Aside0.mk A50
  clear A50
  by_cases c6 : t170 = true
  ·
   subst c6
   have H1 : (emendationlaw11_KindFences.j0 k a0 a1 a2 (decide ((a2.size : Int) > 1000))) = some r := by rw [if_pos rfl] at H; exact H
   clear H
   have H := H1
   clear H1
   have H' := Aside0.mk H
   clear H
   go_wp2_with (first | ((with_reducible refine gate_callee (f := 8) rfl ?_); refine goesL_ (some 16) rfl rfl Tryd.func8 (by kernel_rfl) rfl #[] rfl (by (try simp only [List.map_toArray, List.map_cons, List.map_nil]); first | done | rfl | (simp only [List.length_drop, List.length_take]; rfl)) ?_; (with_reducible refine (emendationlaw11_awake.calls k  true _ ?side1 A5.out).mono ?_); (case side1 => first | exact HT.out | exact Tabs.at HT.out (by repeat (first | (with_reducible first | exact HB.out | apply below_alloc | apply pw_below_drewN | apply below_drew1) | exact HB.out))); rintro e w7 ⟨rfl, hb⟩; refine ⟨_, rfl, ?_⟩; have n0_ := Aside0.mk (below_step (by repeat (first | (with_reducible first | exact HB.out | apply below_alloc | apply pw_below_drewN | apply below_drew1) | exact HB.out)) hb); clear HB; have HB := n0_; clear n0_; (try clear hb); (try clear hb2); (try clear hk); (try clear hi)))
   go_meet
   case rel => exact ⟨_, (decide ((a2.size : Int) > 1000)), (by first | rfl | (simp; done) | (simp [*]; done) | (simp [bne, beq_nil_E]; done)), H', ⟨by first | omega | exact Nat.le_refl _⟩, ⟨by repeat (first | (with_reducible first | exact HB.out | apply below_alloc | apply pw_below_drewN | apply below_drew1) | exact HB.out)⟩⟩
  ·
   replace c6 := Bool.eq_false_iff.mpr c6
   subst c6
   have H1 : (emendationlaw11_KindFences.j0 k a0 a1 a2 true) = some r := by rw [if_neg (show ¬ (false = true) by decide)] at H; exact H
   clear H
   have H := H1
   clear H1
   have H' := Aside0.mk H
   clear H
   go_wp2_with (first | ((with_reducible refine gate_callee (f := 8) rfl ?_); refine goesL_ (some 16) rfl rfl Tryd.func8 (by kernel_rfl) rfl #[] rfl (by (try simp only [List.map_toArray, List.map_cons, List.map_nil]); first | done | rfl | (simp only [List.length_drop, List.length_take]; rfl)) ?_; (with_reducible refine (emendationlaw11_awake.calls k  false _ ?side1 A5.out).mono ?_); (case side1 => first | exact HT.out | exact Tabs.at HT.out (by repeat (first | (with_reducible first | exact HB.out | apply below_alloc | apply pw_below_drewN | apply below_drew1) | exact HB.out))); rintro e w8 ⟨rfl, hb⟩; refine ⟨_, rfl, ?_⟩; have n0_ := Aside0.mk (below_step (by repeat (first | (with_reducible first | exact HB.out | apply below_alloc | apply pw_below_drewN | apply below_drew1) | exact HB.out)) hb); clear HB; have HB := n0_; clear n0_; (try clear hb); (try clear hb2); (try clear hk); (try clear hi)))
   go_meet
   case rel => exact ⟨_, (true), (by first | rfl | (simp; done) | (simp [*]; done) | (simp [bne, beq_nil_E]; done)), H', ⟨by first | omega | exact Nat.le_refl _⟩, ⟨by repeat (first | (with_reducible first | exact HB.out | apply below_alloc | apply pw_below_drewN | apply below_drew1) | exact HB.out)⟩⟩
 case rest =>
  clear HC4
  try clear p2
  try clear c5
  try clear c6
  try clear c8
  obtain ⟨kq, x22_3, rfl, HA, HJ3, HB⟩ := hcut
  cases kq with
  | zero => exact absurd HA.out (by simp [emendationlaw11_KindFences.j0])
  | succ kj3 =>
   have H := HA.out
   clear HA
   simp only [emendationlaw11_KindFences.j0] at H
   by_cases c9 : x22_3 = true
   ·
    subst c9
    have H1 : ((emendationlaw11_awake.f kj3).bind fun t171 => (some t171)) = some r := by rw [if_pos rfl] at H; exact H
    clear H
    have H := H1
    clear H1
    replace H := Option.bind_eq_some_iff.mp H
    obtain ⟨t171, A100, H⟩ := H
    replace H : (some t171) = some r := H
    have A10 := Aside0.mk A100
    clear A100
    obtain rfl := Option.some.inj H
    go_wp2_with (first | ((with_reducible refine gate_callee (f := 8) rfl ?_); refine goesL_ (some 23) rfl rfl Tryd.func8 (by kernel_rfl) rfl #[] rfl (by (try simp only [List.map_toArray, List.map_cons, List.map_nil]); first | done | rfl | (simp only [List.length_drop, List.length_take]; rfl)) ?_; (with_reducible refine (emendationlaw11_awake.calls kj3  t171 _ ?side1 A10.out).mono ?_); (case side1 => first | exact HT.out | exact Tabs.at HT.out (by repeat (first | (with_reducible first | exact HB.out | apply below_alloc | apply pw_below_drewN | apply below_drew1) | exact HB.out))); rintro e w11 ⟨rfl, hb⟩; refine ⟨_, rfl, ?_⟩; have n0_ := Aside0.mk (below_step (by repeat (first | (with_reducible first | exact HB.out | apply below_alloc | apply pw_below_drewN | apply below_drew1) | exact HB.out)) hb); clear HB; have HB := n0_; clear n0_; (try clear hb); (try clear hb2); (try clear hk); (try clear hi)))
    go_ret
    exact ⟨by first | rfl | (simp [errW_none, errW_some] <;> rfl) | (simp [*, errW_none, errW_some] <;> rfl), by repeat (first | (with_reducible first | exact HB.out | apply below_alloc | apply pw_below_drewN | apply below_drew1) | exact HB.out)⟩
   ·
    replace c9 := Bool.eq_false_iff.mpr c9
    subst c9
    have H1 : (emendationlaw11_KindFences.l0 kj3 a2 (Int.tmod (wrap64 (a0)) 20) (Int.tmod (wrap64 (a1)) 20) (⟨#[]⟩ : ByteArray) (Int.tmod (wrap64 (a0)) 20) 0) = some r := by rw [if_neg (show ¬ (false = true) by decide)] at H; exact H
    clear H
    have H := H1
    clear H1
    have H' := Aside0.mk H
    clear H
    go_wp2
    go_loopg [9, 31] kj3 (fun kq v9 v31 w' => ∃ (x9_2 : ByteArray) (x31_2 : Int), v9 = .string x9_2 ∧ v31 = .int .i64 x31_2 ∧ Aside0 (emendationlaw11_KindFences.l0 kq a2 (Int.tmod (wrap64 (a0)) 20) (Int.tmod (wrap64 (a1)) 20) x9_2 (Int.tmod (wrap64 (a0)) 20) x31_2 = some r) ∧ Aside0 (kq ≤ kj3) ∧ Aside0 (Below w.heap.size w w'))
    case atStart => exact ⟨((⟨#[]⟩ : ByteArray)), (0), (by first | rfl | (simp; done) | (simp [*]; done) | (simp [bne, beq_nil_E]; done)), (by first | rfl | (simp; done) | (simp [*]; done) | (simp [bne, beq_nil_E]; done)), H', ⟨Nat.le_refl _⟩, ⟨by repeat (first | (with_reducible first | exact HB.out | apply below_alloc | apply pw_below_drewN | apply below_drew1) | exact HB.out)⟩⟩
    case round =>
     clear H'
     try clear p2
     try clear c5
     try clear c6
     try clear p6
     try clear c8
     try clear c9
     try clear p2
     obtain ⟨x9_2, x31_2, rfl, rfl, HA, HK2, HB⟩ := hrel
     cases gk with
     | zero => exact absurd HA.out (by simp [emendationlaw11_KindFences.l0])
     | succ k2 =>
      have H := HA.out
      clear HA
      simp only [emendationlaw11_KindFences.l0] at H
      by_cases c12 : x31_2 < (Int.tmod (wrap64 (a0)) 20)
      ·
       rw [if_pos c12] at H
       have c12b0 : decide (x31_2 < (Int.tmod (wrap64 (a0)) 20)) = true := decide_eq_true c12
       clear c12
       by_cases c13 : x9_2.size + 1 ≤ 9223372036854775807
       ·
        rw [if_pos c13] at H
        have c13b0 := eq_true c13
        have c13b1 : decide (x9_2.size + 1 ≤ 9223372036854775807) = true := decide_eq_true c13
        try have c13b2 : (9223372036854775807 < x9_2.size + 1) = False := eq_false (Nat.not_lt.2 c13)
        have H' := Aside0.mk H
        clear H
        go_wp2
        go_roundg k2
        case measure => have := HJ3.out; have := HK2.out; omega
        case rel => exact ⟨(x9_2 ++ (⟨#[96]⟩ : ByteArray)), (wrap64 (x31_2 + 1)), (by first | rfl | (simp; done) | (simp [*]; done) | (simp [bne, beq_nil_E]; done)), (by first | rfl | (simp; done) | (simp [*]; done) | (simp [bne, beq_nil_E]; done)), H', ⟨by have := HJ3.out; have := HK2.out; omega⟩, ⟨by repeat (first | (with_reducible first | exact HB.out | apply below_alloc | apply pw_below_drewN | apply below_drew1) | exact HB.out)⟩⟩
       ·
        rw [if_neg c13] at H
        exact absurd H (by simp)
      ·
       rw [if_neg c12] at H
       have c12b0 : decide (x31_2 < (Int.tmod (wrap64 (a0)) 20)) = false := decide_eq_false c12
       clear c12
       replace H := Option.bind_eq_some_iff.mp H
       obtain ⟨⟨t172, t173⟩, A140, H⟩ := H
       replace H : (if (Int.tmod (wrap64 (a0)) 20) ≥ 3 then (if ((t172 == (Int.tmod (wrap64 (a0)) 20)) != true) = true then (emendationlaw11_KindFences.j2 k2 a2 (Int.tmod (wrap64 (a0)) 20) (Int.tmod (wrap64 (a1)) 20) x9_2 true) else (if t173.toList = ([] : List UInt8) then ((kind_Closes.f k2 x9_2 (Int.tmod (wrap64 (a1)) 20)).bind fun t174 => (if (Int.tmod (wrap64 (a0)) 20) ≥ 1 then (emendationlaw11_KindFences.j2 k2 a2 (Int.tmod (wrap64 (a0)) 20) (Int.tmod (wrap64 (a1)) 20) x9_2 (t174 != (decide ((Int.tmod (wrap64 (a0)) 20) ≥ (Int.tmod (wrap64 (a1)) 20))))) else (emendationlaw11_KindFences.j2 k2 a2 (Int.tmod (wrap64 (a0)) 20) (Int.tmod (wrap64 (a1)) 20) x9_2 (t174 != false)))) else (emendationlaw11_KindFences.j2 k2 a2 (Int.tmod (wrap64 (a0)) 20) (Int.tmod (wrap64 (a1)) 20) x9_2 true))) else (if ((t172 == (Int.tmod (wrap64 (a0)) 20)) != ((Int.tmod (wrap64 (a0)) 20) == 0)) = true then (emendationlaw11_KindFences.j2 k2 a2 (Int.tmod (wrap64 (a0)) 20) (Int.tmod (wrap64 (a1)) 20) x9_2 true) else (if t173.toList = ([] : List UInt8) then ((kind_Closes.f k2 x9_2 (Int.tmod (wrap64 (a1)) 20)).bind fun t175 => (if (Int.tmod (wrap64 (a0)) 20) ≥ 1 then (emendationlaw11_KindFences.j2 k2 a2 (Int.tmod (wrap64 (a0)) 20) (Int.tmod (wrap64 (a1)) 20) x9_2 (t175 != (decide ((Int.tmod (wrap64 (a0)) 20) ≥ (Int.tmod (wrap64 (a1)) 20))))) else (emendationlaw11_KindFences.j2 k2 a2 (Int.tmod (wrap64 (a0)) 20) (Int.tmod (wrap64 (a1)) 20) x9_2 (t175 != false)))) else (emendationlaw11_KindFences.j2 k2 a2 (Int.tmod (wrap64 (a0)) 20) (Int.tmod (wrap64 (a1)) 20) x9_2 true)))) = some r := H
       have A14 := Aside0.mk A140
       clear A140
       have HC15 := Aside0.mk H
       clear H
       go_upto_region 10 with (first | ((with_reducible refine gate_callee (f := 13) rfl ?_); refine goesL_ (some 38) rfl rfl Tryd.func13 (by kernel_rfl) rfl #[.string x9_2] rfl (by (try simp only [List.map_toArray, List.map_cons, List.map_nil]); first | done | rfl | (simp only [List.length_drop, List.length_take]; rfl)) ?_; (with_reducible refine (kind_Open.calls k2 x9_2 t172 t173 _ ?side1 A14.out).mono ?_); (case side1 => first | exact HT.out | exact Tabs.at HT.out (by repeat (first | (with_reducible first | exact HB.out | apply below_alloc | apply pw_below_drewN | apply below_drew1) | exact HB.out))); rintro e w16 ⟨rfl, hb⟩; refine ⟨_, rfl, ?_⟩; have n0_ := Aside0.mk (below_step (by repeat (first | (with_reducible first | exact HB.out | apply below_alloc | apply pw_below_drewN | apply below_drew1) | exact HB.out)) hb); clear HB; have HB := n0_; clear n0_; (try clear hb); (try clear hb2); (try clear hk); (try clear hi)))
       (try simp only [Act.put, List.setIfInBounds_toArray, List.set_cons_zero, List.set_cons_succ])
       go_cut [67] (fun v67 wc => ∃ (kq : Nat) (x67_14 : Bool), v67 = .bool x67_14 ∧ Aside0 (emendationlaw11_KindFences.j2 kq a2 (Int.tmod (wrap64 (a0)) 20) (Int.tmod (wrap64 (a1)) 20) x9_2 x67_14 = some r) ∧ Aside0 (kq ≤ k2) ∧ Aside0 (Below w.heap.size w wc))
       case first =>
        have H := HC15.out
        clear HC15
        by_cases c17 : (Int.tmod (wrap64 (a0)) 20) ≥ 3
        ·
         rw [if_pos c17] at H
         have c17b0 : decide (3 ≤ (Int.tmod (wrap64 (a0)) 20)) = true := decide_eq_true c17
         clear c17
         (first | rw [c17b0] | (simp only [i64_w, i32_w]; rw [c17b0]) | skip)
         by_cases c18 : ((t172 == (Int.tmod (wrap64 (a0)) 20)) != true) = true
         ·
          rw [if_pos c18] at H
          have c18b0 : ((t172 == (Int.tmod (wrap64 (a0)) 20)) != true) = true := c18
          (try (have c18b1 : decide ((t172 == (Int.tmod (wrap64 (a0)) 20)) = true) = false := by simpa using c18))
          (try (have c18b2 : ((t172 == (Int.tmod (wrap64 (a0)) 20)) == true) = false := by simpa using c18))
          (try (have c18b3 : ¬ ((t172 == (Int.tmod (wrap64 (a0)) 20)) = true) := by simpa using c18))
          clear c18
          have H' := Aside0.mk H
          clear H
          go_wp2
          go_meet
          case rel => exact ⟨_, (true), (by first | rfl | (simp; done) | (simp [*]; done) | (simp [bne, beq_nil_E]; done)), H', ⟨by have := HJ3.out; have := HK2.out; first | omega | exact Nat.le_refl _⟩, ⟨by repeat (first | (with_reducible first | exact HB.out | apply below_alloc | apply pw_below_drewN | apply below_drew1) | exact HB.out)⟩⟩
         ·
          rw [if_neg c18] at H
          have c18b0 : ((t172 == (Int.tmod (wrap64 (a0)) 20)) != true) = false := by simpa using c18
          (try (have c18b1 : decide ((t172 == (Int.tmod (wrap64 (a0)) 20)) = true) = true := by simpa using c18))
          (try (have c18b2 : ((t172 == (Int.tmod (wrap64 (a0)) 20)) == true) = true := by simpa using c18))
          clear c18
          by_cases c19 : t173.toList = ([] : List UInt8)
          ·
           rw [if_pos c19] at H
           have c19b0 : (t173.toList == ([] : List UInt8)) = true := beq_iff_eq.mpr c19
           have c19b1 : (t173.toList != ([] : List UInt8)) = false := bne_eq_false_iff_eq.mpr c19
           (try (have c19b0e := c19b0; simp only [beq_nil_E] at c19b0e))
           clear c19
           replace H := Option.bind_eq_some_iff.mp H
           obtain ⟨t174, A200, H⟩ := H
           replace H : (if (Int.tmod (wrap64 (a0)) 20) ≥ 1 then (emendationlaw11_KindFences.j2 k2 a2 (Int.tmod (wrap64 (a0)) 20) (Int.tmod (wrap64 (a1)) 20) x9_2 (t174 != (decide ((Int.tmod (wrap64 (a0)) 20) ≥ (Int.tmod (wrap64 (a1)) 20))))) else (emendationlaw11_KindFences.j2 k2 a2 (Int.tmod (wrap64 (a0)) 20) (Int.tmod (wrap64 (a1)) 20) x9_2 (t174 != false))) = some r := H
           have A20 := Aside0.mk A200
           clear A200
           by_cases c21 : (Int.tmod (wrap64 (a0)) 20) ≥ 1
           ·
            rw [if_pos c21] at H
            have c21b0 : decide (1 ≤ (Int.tmod (wrap64 (a0)) 20)) = true := decide_eq_true c21
            clear c21
            have H' := Aside0.mk H
            clear H
            have tkA20 : True := trivial
            go_wp2_with (first | (go_at_call 14; clear tkA20; (with_reducible refine (kind_Closes.calls k2 x9_2 (Int.tmod (wrap64 (a1)) 20) t174 _ A20.out).mono ?_); rintro e w' ⟨rfl, ⟨nd, rfl⟩⟩))
            go_meet
            case rel => exact ⟨_, ((t174 != (decide ((Int.tmod (wrap64 (a0)) 20) ≥ (Int.tmod (wrap64 (a1)) 20))))), (by first | rfl | (simp; done) | (simp [*]; done) | (simp [bne, beq_nil_E]; done)), H', ⟨by have := HJ3.out; have := HK2.out; first | omega | exact Nat.le_refl _⟩, ⟨by repeat (first | (with_reducible first | exact HB.out | apply below_alloc | apply pw_below_drewN | apply below_drew1) | exact HB.out)⟩⟩
           ·
            rw [if_neg c21] at H
            have c21b0 : decide (1 ≤ (Int.tmod (wrap64 (a0)) 20)) = false := decide_eq_false c21
            clear c21
            have H' := Aside0.mk H
            clear H
            have tkA20 : True := trivial
            go_wp2_with (first | (go_at_call 14; clear tkA20; (with_reducible refine (kind_Closes.calls k2 x9_2 (Int.tmod (wrap64 (a1)) 20) t174 _ A20.out).mono ?_); rintro e w' ⟨rfl, ⟨nd, rfl⟩⟩))
            go_meet
            case rel => exact ⟨_, ((t174 != false)), (by first | rfl | (simp; done) | (simp [*]; done) | (simp [bne, beq_nil_E]; done)), H', ⟨by have := HJ3.out; have := HK2.out; first | omega | exact Nat.le_refl _⟩, ⟨by repeat (first | (with_reducible first | exact HB.out | apply below_alloc | apply pw_below_drewN | apply below_drew1) | exact HB.out)⟩⟩
          ·
           rw [if_neg c19] at H
           have c19b0 : (t173.toList == ([] : List UInt8)) = false := beq_eq_false_iff_ne.mpr c19
           have c19b1 : (t173.toList != ([] : List UInt8)) = true := bne_iff_ne.mpr c19
           (try (have c19b0e := c19b0; simp only [beq_nil_E] at c19b0e))
           have H' := Aside0.mk H
           clear H
           go_wp2
           go_meet
           case rel => exact ⟨_, (true), (by first | rfl | (simp; done) | (simp [*]; done) | (simp [bne, beq_nil_E]; done)), H', ⟨by have := HJ3.out; have := HK2.out; first | omega | exact Nat.le_refl _⟩, ⟨by repeat (first | (with_reducible first | exact HB.out | apply below_alloc | apply pw_below_drewN | apply below_drew1) | exact HB.out)⟩⟩
        ·
         rw [if_neg c17] at H
         have c17b0 : decide (3 ≤ (Int.tmod (wrap64 (a0)) 20)) = false := decide_eq_false c17
         clear c17
         (first | rw [c17b0] | (simp only [i64_w, i32_w]; rw [c17b0]) | skip)
         by_cases c22 : ((t172 == (Int.tmod (wrap64 (a0)) 20)) != ((Int.tmod (wrap64 (a0)) 20) == 0)) = true
         ·
          rw [if_pos c22] at H
          have c22b0 : ((t172 == (Int.tmod (wrap64 (a0)) 20)) != ((Int.tmod (wrap64 (a0)) 20) == 0)) = true := c22
          (try (have c22b1 : decide ((t172 == (Int.tmod (wrap64 (a0)) 20)) = ((Int.tmod (wrap64 (a0)) 20) == 0)) = false := by simpa using c22))
          (try (have c22b2 : ((t172 == (Int.tmod (wrap64 (a0)) 20)) == ((Int.tmod (wrap64 (a0)) 20) == 0)) = false := by simpa using c22))
          (try (have c22b3 : ¬ ((t172 == (Int.tmod (wrap64 (a0)) 20)) = ((Int.tmod (wrap64 (a0)) 20) == 0)) := by simpa using c22))
          clear c22
          have H' := Aside0.mk H
          clear H
          go_wp2
          go_meet
          case rel => exact ⟨_, (true), (by first | rfl | (simp; done) | (simp [*]; done) | (simp [bne, beq_nil_E]; done)), H', ⟨by have := HJ3.out; have := HK2.out; first | omega | exact Nat.le_refl _⟩, ⟨by repeat (first | (with_reducible first | exact HB.out | apply below_alloc | apply pw_below_drewN | apply below_drew1) | exact HB.out)⟩⟩
         ·
          rw [if_neg c22] at H
          have c22b0 : ((t172 == (Int.tmod (wrap64 (a0)) 20)) != ((Int.tmod (wrap64 (a0)) 20) == 0)) = false := by simpa using c22
          (try (have c22b1 : decide ((t172 == (Int.tmod (wrap64 (a0)) 20)) = ((Int.tmod (wrap64 (a0)) 20) == 0)) = true := by simpa using c22))
          (try (have c22b2 : ((t172 == (Int.tmod (wrap64 (a0)) 20)) == ((Int.tmod (wrap64 (a0)) 20) == 0)) = true := by simpa using c22))
          clear c22
          by_cases c23 : t173.toList = ([] : List UInt8)
          ·
           rw [if_pos c23] at H
           have c23b0 : (t173.toList == ([] : List UInt8)) = true := beq_iff_eq.mpr c23
           have c23b1 : (t173.toList != ([] : List UInt8)) = false := bne_eq_false_iff_eq.mpr c23
           (try (have c23b0e := c23b0; simp only [beq_nil_E] at c23b0e))
           clear c23
           replace H := Option.bind_eq_some_iff.mp H
           obtain ⟨t175, A240, H⟩ := H
           replace H : (if (Int.tmod (wrap64 (a0)) 20) ≥ 1 then (emendationlaw11_KindFences.j2 k2 a2 (Int.tmod (wrap64 (a0)) 20) (Int.tmod (wrap64 (a1)) 20) x9_2 (t175 != (decide ((Int.tmod (wrap64 (a0)) 20) ≥ (Int.tmod (wrap64 (a1)) 20))))) else (emendationlaw11_KindFences.j2 k2 a2 (Int.tmod (wrap64 (a0)) 20) (Int.tmod (wrap64 (a1)) 20) x9_2 (t175 != false))) = some r := H
           have A24 := Aside0.mk A240
           clear A240
           by_cases c25 : (Int.tmod (wrap64 (a0)) 20) ≥ 1
           ·
            rw [if_pos c25] at H
            have c25b0 : decide (1 ≤ (Int.tmod (wrap64 (a0)) 20)) = true := decide_eq_true c25
            clear c25
            have H' := Aside0.mk H
            clear H
            have tkA24 : True := trivial
            go_wp2_with (first | (go_at_call 14; clear tkA24; (with_reducible refine (kind_Closes.calls k2 x9_2 (Int.tmod (wrap64 (a1)) 20) t175 _ A24.out).mono ?_); rintro e w' ⟨rfl, ⟨nd, rfl⟩⟩))
            go_meet
            case rel => exact ⟨_, ((t175 != (decide ((Int.tmod (wrap64 (a0)) 20) ≥ (Int.tmod (wrap64 (a1)) 20))))), (by first | rfl | (simp; done) | (simp [*]; done) | (simp [bne, beq_nil_E]; done)), H', ⟨by have := HJ3.out; have := HK2.out; first | omega | exact Nat.le_refl _⟩, ⟨by repeat (first | (with_reducible first | exact HB.out | apply below_alloc | apply pw_below_drewN | apply below_drew1) | exact HB.out)⟩⟩
           ·
            rw [if_neg c25] at H
            have c25b0 : decide (1 ≤ (Int.tmod (wrap64 (a0)) 20)) = false := decide_eq_false c25
            clear c25
            have H' := Aside0.mk H
            clear H
            have tkA24 : True := trivial
            go_wp2_with (first | (go_at_call 14; clear tkA24; (with_reducible refine (kind_Closes.calls k2 x9_2 (Int.tmod (wrap64 (a1)) 20) t175 _ A24.out).mono ?_); rintro e w' ⟨rfl, ⟨nd, rfl⟩⟩))
            go_meet
            case rel => exact ⟨_, ((t175 != false)), (by first | rfl | (simp; done) | (simp [*]; done) | (simp [bne, beq_nil_E]; done)), H', ⟨by have := HJ3.out; have := HK2.out; first | omega | exact Nat.le_refl _⟩, ⟨by repeat (first | (with_reducible first | exact HB.out | apply below_alloc | apply pw_below_drewN | apply below_drew1) | exact HB.out)⟩⟩
          ·
           rw [if_neg c23] at H
           have c23b0 : (t173.toList == ([] : List UInt8)) = false := beq_eq_false_iff_ne.mpr c23
           have c23b1 : (t173.toList != ([] : List UInt8)) = true := bne_iff_ne.mpr c23
           (try (have c23b0e := c23b0; simp only [beq_nil_E] at c23b0e))
           have H' := Aside0.mk H
           clear H
           go_wp2
           go_meet
           case rel => exact ⟨_, (true), (by first | rfl | (simp; done) | (simp [*]; done) | (simp [bne, beq_nil_E]; done)), H', ⟨by have := HJ3.out; have := HK2.out; first | omega | exact Nat.le_refl _⟩, ⟨by repeat (first | (with_reducible first | exact HB.out | apply below_alloc | apply pw_below_drewN | apply below_drew1) | exact HB.out)⟩⟩
       case rest =>
        clear HC15
        try clear c1
        try clear c2
        try clear p2
        try clear c5
        try clear c6
        try clear p6
        try clear c8
        try clear c9
        try clear c12
        try clear c12b0
        try clear c13
        try clear c13b0
        try clear c13b1
        try clear c13b2
        try clear c17
        try clear c17b0
        try clear c18
        try clear c18b0
        try clear c18b1
        try clear c18b2
        try clear c19
        try clear c19b0
        try clear c19b1
        try clear c21
        try clear c21b0
        try clear c22
        try clear c22b0
        try clear c22b1
        try clear c22b2
        try clear c23
        try clear c23b0
        try clear c23b1
        try clear c25
        try clear c25b0
        try clear p2
        try clear p6
        obtain ⟨kq, x67_14, rfl, HA, HJ14, HB⟩ := hcut
        cases kq with
        | zero => exact absurd HA.out (by simp [emendationlaw11_KindFences.j2])
        | succ kj14 =>
         have H := HA.out
         clear HA
         simp only [emendationlaw11_KindFences.j2] at H
         by_cases c26 : x67_14 = true
         ·
          subst c26
          have H1 : (some false) = some r := by rw [if_pos rfl] at H; exact H
          clear H
          have H := H1
          clear H1
          obtain rfl := Option.some.inj H
          go_wp2
          go_ret
          exact ⟨by first | rfl | (simp [errW_none, errW_some] <;> rfl) | (simp [*, errW_none, errW_some] <;> rfl), by repeat (first | (with_reducible first | exact HB.out | apply below_alloc | apply pw_below_drewN | apply below_drew1) | exact HB.out)⟩
         ·
          replace c26 := Bool.eq_false_iff.mpr c26
          subst c26
          have H1 : (if x9_2.size + 1 ≤ 9223372036854775807 then (if (x9_2 ++ (⟨#[120]⟩ : ByteArray)).size + a2.size ≤ 9223372036854775807 then ((kind_Open.f kj14 ((x9_2 ++ (⟨#[120]⟩ : ByteArray)) ++ a2)).bind fun bt176 => (emendationlaw11_KindFences.l1 kj14 a2 (Int.tmod (wrap64 (a0)) 20) (Int.tmod (wrap64 (a1)) 20) x9_2 bt176.1 bt176.2 true (a2.size : Int) 0)) else (none)) else (none)) = some r := by rw [if_neg (show ¬ (false = true) by decide)] at H; exact H
          clear H
          have H := H1
          clear H1
          by_cases c27 : x9_2.size + 1 ≤ 9223372036854775807
          ·
           rw [if_pos c27] at H
           have c27b0 := eq_true c27
           have c27b1 : decide (x9_2.size + 1 ≤ 9223372036854775807) = true := decide_eq_true c27
           try have c27b2 : (9223372036854775807 < x9_2.size + 1) = False := eq_false (Nat.not_lt.2 c27)
           by_cases c28 : (x9_2 ++ (⟨#[120]⟩ : ByteArray)).size + a2.size ≤ 9223372036854775807
           ·
            rw [if_pos c28] at H
            have c28b0 := eq_true c28
            have c28b1 : decide ((x9_2 ++ (⟨#[120]⟩ : ByteArray)).size + a2.size ≤ 9223372036854775807) = true := decide_eq_true c28
            try have c28b2 : (9223372036854775807 < (x9_2 ++ (⟨#[120]⟩ : ByteArray)).size + a2.size) = False := eq_false (Nat.not_lt.2 c28)
            (try (have c28s := c28; simp only [ByteArray.size_append, lit_size, List.length_cons, List.length_nil, Nat.zero_add, Nat.reduceAdd] at c28s; have c28s0 := eq_true c28s; have c28s1 := decide_eq_true c28s; have c28s2 := eq_false (Nat.not_lt.2 c28s); clear c28s))
            replace H := Option.bind_eq_some_iff.mp H
            obtain ⟨⟨t176, t177⟩, A290, H⟩ := H
            replace H : (emendationlaw11_KindFences.l1 kj14 a2 (Int.tmod (wrap64 (a0)) 20) (Int.tmod (wrap64 (a1)) 20) x9_2 t176 t177 true (a2.size : Int) 0) = some r := H
            have A29 := Aside0.mk A290
            clear A290
            have H' := Aside0.mk H
            clear H
            go_wp2_with (first | ((with_reducible refine gate_callee (f := 13) rfl ?_); refine goesL_ (some 73) rfl rfl Tryd.func13 (by kernel_rfl) rfl #[.string ((x9_2 ++ (⟨#[120]⟩ : ByteArray)) ++ a2)] rfl (by (try simp only [List.map_toArray, List.map_cons, List.map_nil]); first | done | rfl | (simp only [List.length_drop, List.length_take]; rfl)) ?_; (with_reducible refine (kind_Open.calls kj14 ((x9_2 ++ (⟨#[120]⟩ : ByteArray)) ++ a2) t176 t177 _ ?side1 A29.out).mono ?_); (case side1 => first | exact HT.out | exact Tabs.at HT.out (by repeat (first | (with_reducible first | exact HB.out | apply below_alloc | apply pw_below_drewN | apply below_drew1) | exact HB.out))); rintro e w30 ⟨rfl, hb⟩; refine ⟨_, rfl, ?_⟩; have n0_ := Aside0.mk (below_step (by repeat (first | (with_reducible first | exact HB.out | apply below_alloc | apply pw_below_drewN | apply below_drew1) | exact HB.out)) hb); clear HB; have HB := n0_; clear n0_; (try clear hb); (try clear hb2); (try clear hk); (try clear hi)))
            go_loopg [14, 78] kj14 (fun kq v14 v78 w' => ∃ (x14_4 : Bool) (x78_4 : Int), v14 = .bool x14_4 ∧ v78 = .int .i64 x78_4 ∧ Aside0 (emendationlaw11_KindFences.l1 kq a2 (Int.tmod (wrap64 (a0)) 20) (Int.tmod (wrap64 (a1)) 20) x9_2 t176 t177 x14_4 (a2.size : Int) x78_4 = some r) ∧ Aside0 (kq ≤ kj14) ∧ Aside0 (Below w.heap.size w w'))
            case atStart => exact ⟨(true), (0), (by first | rfl | (simp; done) | (simp [*]; done) | (simp [bne, beq_nil_E]; done)), (by first | rfl | (simp; done) | (simp [*]; done) | (simp [bne, beq_nil_E]; done)), H', ⟨Nat.le_refl _⟩, ⟨by repeat (first | (with_reducible first | exact HB.out | apply below_alloc | apply pw_below_drewN | apply below_drew1) | exact HB.out)⟩⟩
            case round =>
             clear H'
             try clear c1
             try clear c2
             try clear p2
             try clear c5
             try clear c6
             try clear p6
             try clear c8
             try clear c9
             try clear c12
             try clear c12b0
             try clear c13
             try clear c13b0
             try clear c13b1
             try clear c13b2
             try clear c17
             try clear c17b0
             try clear c18
             try clear c18b0
             try clear c18b1
             try clear c18b2
             try clear c19
             try clear c19b0
             try clear c19b1
             try clear c21
             try clear c21b0
             try clear c22
             try clear c22b0
             try clear c22b1
             try clear c22b2
             try clear c23
             try clear c23b0
             try clear c23b1
             try clear c25
             try clear c25b0
             try clear c26
             try clear c27
             try clear c27b0
             try clear c27b1
             try clear c27b2
             try clear c28
             try clear c28b0
             try clear c28b1
             try clear c28b2
             try clear p2
             try clear p6
             obtain ⟨x14_4, x78_4, rfl, rfl, HA, HK4, HB⟩ := hrel
             cases gk with
             | zero => exact absurd HA.out (by simp [emendationlaw11_KindFences.l1])
             | succ k4 =>
              have H := HA.out
              clear HA
              simp only [emendationlaw11_KindFences.l1] at H
              by_cases c31 : x78_4 < (a2.size : Int)
              ·
               rw [if_pos c31] at H
               have c31b0 : decide (x78_4 < (a2.size : Int)) = true := decide_eq_true c31
               clear c31
               by_cases c32 : x14_4 = true
               ·
                subst c32
                have H1 : (if 0 ≤ x78_4 then (if x78_4 < (a2.size : Int) then (emendationlaw11_KindFences.l1 k4 a2 (Int.tmod (wrap64 (a0)) 20) (Int.tmod (wrap64 (a1)) 20) x9_2 t176 t177 ((bt a2 x78_4) != 96) (a2.size : Int) (wrap64 (x78_4 + 1))) else (none)) else (none)) = some r := by rw [if_pos rfl] at H; exact H
                clear H
                have H := H1
                clear H1
                by_cases c33 : 0 ≤ x78_4
                ·
                 rw [if_pos c33] at H
                 have c33b0 : decide (0 ≤ x78_4) = true := decide_eq_true c33
                 clear c33
                 by_cases c34 : x78_4 < (a2.size : Int)
                 ·
                  rw [if_pos c34] at H
                  have c34b0 : decide (x78_4 < (a2.size : Int)) = true := decide_eq_true c34
                  clear c34
                  have H' := Aside0.mk H
                  clear H
                  have p35 : 0 ≤ (x78_4 : Int) := of_decide_eq_true (by first | (with_reducible assumption) | assumption)
                  have q35 : x78_4 < (a2.size : Int) := of_decide_eq_true (by first | (with_reducible assumption) | assumption)
                  have hx35 := bt_at a2 x78_4
                  replace p35 := eq_true p35
                  replace q35 := eq_true q35
                  go_wp2
                  go_roundg k4
                  case measure => have := HJ3.out; have := HK2.out; have := HJ14.out; have := HK4.out; omega
                  case rel => exact ⟨(((bt a2 x78_4) != 96)), (wrap64 (x78_4 + 1)), (by first | rfl | (simp; done) | (simp [*]; done) | (simp [bne, beq_nil_E]; done)), (by first | rfl | (simp; done) | (simp [*]; done) | (simp [bne, beq_nil_E]; done)), H', ⟨by have := HJ3.out; have := HK2.out; have := HJ14.out; have := HK4.out; omega⟩, ⟨by repeat (first | (with_reducible first | exact HB.out | apply below_alloc | apply pw_below_drewN | apply below_drew1) | exact HB.out)⟩⟩
                 ·
                  rw [if_neg c34] at H
                  exact absurd H (by simp)
                ·
                 rw [if_neg c33] at H
                 exact absurd H (by simp)
               ·
                replace c32 := Bool.eq_false_iff.mpr c32
                subst c32
                have H1 : (emendationlaw11_KindFences.l1 k4 a2 (Int.tmod (wrap64 (a0)) 20) (Int.tmod (wrap64 (a1)) 20) x9_2 t176 t177 false (a2.size : Int) (wrap64 (x78_4 + 1))) = some r := by rw [if_neg (show ¬ (false = true) by decide)] at H; exact H
                clear H
                have H := H1
                clear H1
                have H' := Aside0.mk H
                clear H
                go_wp2
                go_roundg k4
                case measure => have := HJ3.out; have := HK2.out; have := HJ14.out; have := HK4.out; omega
                case rel => exact ⟨(false), (wrap64 (x78_4 + 1)), (by first | rfl | (simp; done) | (simp [*]; done) | (simp [bne, beq_nil_E]; done)), (by first | rfl | (simp; done) | (simp [*]; done) | (simp [bne, beq_nil_E]; done)), H', ⟨by have := HJ3.out; have := HK2.out; have := HJ14.out; have := HK4.out; omega⟩, ⟨by repeat (first | (with_reducible first | exact HB.out | apply below_alloc | apply pw_below_drewN | apply below_drew1) | exact HB.out)⟩⟩
              ·
               rw [if_neg c31] at H
               have c31b0 : decide (x78_4 < (a2.size : Int)) = false := decide_eq_false c31
               clear c31
               by_cases c36 : t176 = (Int.tmod (wrap64 (a0)) 20)
               ·
                rw [if_pos c36] at H
                have c36b0 : (t176 == (Int.tmod (wrap64 (a0)) 20)) = true := beq_iff_eq.mpr c36
                have c36b1 : (t176 != (Int.tmod (wrap64 (a0)) 20)) = false := bne_eq_false_iff_eq.mpr c36
                clear c36
                by_cases c37 : (Int.tmod (wrap64 (a0)) 20) ≥ 3
                ·
                 rw [if_pos c37] at H
                 have c37b0 : decide (3 ≤ (Int.tmod (wrap64 (a0)) 20)) = true := decide_eq_true c37
                 clear c37
                 by_cases c38 : ((decide (t176 > 0)) == x14_4) = true
                 ·
                  rw [if_pos c38] at H
                  have c38b0 : ((decide (t176 > 0)) == x14_4) = true := c38
                  (try (have c38b1 : decide ((decide (t176 > 0)) = x14_4) = true := by simpa using c38))
                  (try (have c38b2 : ((decide (t176 > 0)) == x14_4) = true := by simpa using c38))
                  clear c38
                  by_cases c39 : t176 = 0
                  ·
                   rw [if_pos c39] at H
                   have c39b0 : (t176 == 0) = true := beq_iff_eq.mpr c39
                   have c39b1 : (t176 != 0) = false := bne_eq_false_iff_eq.mpr c39
                   clear c39
                   by_cases c40 : x9_2.size + 1 ≤ 9223372036854775807
                   ·
                    rw [if_pos c40] at H
                    have c40b0 := eq_true c40
                    have c40b1 : decide (x9_2.size + 1 ≤ 9223372036854775807) = true := decide_eq_true c40
                    try have c40b2 : (9223372036854775807 < x9_2.size + 1) = False := eq_false (Nat.not_lt.2 c40)
                    by_cases c41 : (x9_2 ++ (⟨#[120]⟩ : ByteArray)).size + a2.size ≤ 9223372036854775807
                    ·
                     rw [if_pos c41] at H
                     have c41b0 := eq_true c41
                     have c41b1 : decide ((x9_2 ++ (⟨#[120]⟩ : ByteArray)).size + a2.size ≤ 9223372036854775807) = true := decide_eq_true c41
                     try have c41b2 : (9223372036854775807 < (x9_2 ++ (⟨#[120]⟩ : ByteArray)).size + a2.size) = False := eq_false (Nat.not_lt.2 c41)
                     (try (have c41s := c41; simp only [ByteArray.size_append, lit_size, List.length_cons, List.length_nil, Nat.zero_add, Nat.reduceAdd] at c41s; have c41s0 := eq_true c41s; have c41s1 := decide_eq_true c41s; have c41s2 := eq_false (Nat.not_lt.2 c41s); clear c41s))
                     replace H := Option.bind_eq_some_iff.mp H
                     obtain ⟨t178, A420, H⟩ := H
                     replace H : (some (!t178)) = some r := H
                     have A42 := Aside0.mk A420
                     clear A420
                     obtain rfl := Option.some.inj H
                     have tkA42 : True := trivial
                     go_wp2_with (first | (go_at_call 14; clear tkA42; (with_reducible refine (kind_Closes.calls k4 ((x9_2 ++ (⟨#[120]⟩ : ByteArray)) ++ a2) (Int.tmod (wrap64 (a1)) 20) t178 _ A42.out).mono ?_); rintro e w' ⟨rfl, ⟨nd, rfl⟩⟩))
                     go_ret
                     exact ⟨by first | rfl | (simp [errW_none, errW_some] <;> rfl) | (simp [*, errW_none, errW_some] <;> rfl), by repeat (first | (with_reducible first | exact HB.out | apply below_alloc | apply pw_below_drewN | apply below_drew1) | exact HB.out)⟩
                    ·
                     rw [if_neg c41] at H
                     exact absurd H (by simp)
                   ·
                    rw [if_neg c40] at H
                    exact absurd H (by simp)
                  ·
                   rw [if_neg c39] at H
                   have c39b0 : (t176 == 0) = false := beq_eq_false_iff_ne.mpr c39
                   have c39b1 : (t176 != 0) = true := bne_iff_ne.mpr c39
                   by_cases c43 : (t177.size : Int) ≥ 1
                   ·
                    rw [if_pos c43] at H
                    have c43b0 : decide (1 ≤ (t177.size : Int)) = true := decide_eq_true c43
                    have c43b1 : decide (1 ≤ t177.size) = true := decide_eq_true (by omega)
                    clear c43
                    by_cases c44 : 0 < (t177.size : Int)
                    ·
                     rw [if_pos c44] at H
                     have c44b0 : decide (0 < (t177.size : Int)) = true := decide_eq_true c44
                     have c44b1 : decide (0 < t177.size) = true := decide_eq_true (by omega)
                     clear c44
                     by_cases c46 : (bt t177 0) = 120
                     ·
                      rw [if_pos c46] at H
                      have c46b0 : ((bt t177 0) == 120) = true := beq_iff_eq.mpr c46
                      have c46b1 : ((bt t177 0) != 120) = false := bne_eq_false_iff_eq.mpr c46
                      clear c46
                      by_cases c47 : x9_2.size + 1 ≤ 9223372036854775807
                      ·
                       rw [if_pos c47] at H
                       have c47b0 := eq_true c47
                       have c47b1 : decide (x9_2.size + 1 ≤ 9223372036854775807) = true := decide_eq_true c47
                       try have c47b2 : (9223372036854775807 < x9_2.size + 1) = False := eq_false (Nat.not_lt.2 c47)
                       by_cases c48 : (x9_2 ++ (⟨#[120]⟩ : ByteArray)).size + a2.size ≤ 9223372036854775807
                       ·
                        rw [if_pos c48] at H
                        have c48b0 := eq_true c48
                        have c48b1 : decide ((x9_2 ++ (⟨#[120]⟩ : ByteArray)).size + a2.size ≤ 9223372036854775807) = true := decide_eq_true c48
                        try have c48b2 : (9223372036854775807 < (x9_2 ++ (⟨#[120]⟩ : ByteArray)).size + a2.size) = False := eq_false (Nat.not_lt.2 c48)
                        (try (have c48s := c48; simp only [ByteArray.size_append, lit_size, List.length_cons, List.length_nil, Nat.zero_add, Nat.reduceAdd] at c48s; have c48s0 := eq_true c48s; have c48s1 := decide_eq_true c48s; have c48s2 := eq_false (Nat.not_lt.2 c48s); clear c48s))
                        replace H := Option.bind_eq_some_iff.mp H
                        obtain ⟨t179, A490, H⟩ := H
                        replace H : (some (!t179)) = some r := H
                        have A49 := Aside0.mk A490
                        clear A490
                        obtain rfl := Option.some.inj H
                        have p45 : 0 ≤ (0 : Int) := (by omega)
                        have q45 : 0 < t177.size := (by have : (0 : Int) < (t177.size : Int) := of_decide_eq_true (by first | (with_reducible assumption) | assumption); omega)
                        have hx45 : ∀ h : 0 < t177.size, ((t177[0]'h).toNat : Int) = bt t177 0 := bt_at t177 0
                        clear p45
                        have qi45 : (0 < (t177.size : Int)) = True := eq_true (of_decide_eq_true (by first | (with_reducible assumption) | assumption))
                        replace q45 := eq_true q45
                        have tkA49 : True := trivial
                        go_wp2_with (first | (go_at_call 14; clear tkA49; (with_reducible refine (kind_Closes.calls k4 ((x9_2 ++ (⟨#[120]⟩ : ByteArray)) ++ a2) (Int.tmod (wrap64 (a1)) 20) t179 _ A49.out).mono ?_); rintro e w' ⟨rfl, ⟨nd, rfl⟩⟩))
                        go_ret
                        exact ⟨by first | rfl | (simp [errW_none, errW_some] <;> rfl) | (simp [*, errW_none, errW_some] <;> rfl), by repeat (first | (with_reducible first | exact HB.out | apply below_alloc | apply pw_below_drewN | apply below_drew1) | exact HB.out)⟩
                       ·
                        rw [if_neg c48] at H
                        exact absurd H (by simp)
                      ·
                       rw [if_neg c47] at H
                       exact absurd H (by simp)
                     ·
                      rw [if_neg c46] at H
                      have c46b0 : ((bt t177 0) == 120) = false := beq_eq_false_iff_ne.mpr c46
                      have c46b1 : ((bt t177 0) != 120) = true := bne_iff_ne.mpr c46
                      obtain rfl := Option.some.inj H
                      have p45 : 0 ≤ (0 : Int) := (by omega)
                      have q45 : 0 < t177.size := (by have : (0 : Int) < (t177.size : Int) := of_decide_eq_true (by first | (with_reducible assumption) | assumption); omega)
                      have hx45 : ∀ h : 0 < t177.size, ((t177[0]'h).toNat : Int) = bt t177 0 := bt_at t177 0
                      clear p45
                      have qi45 : (0 < (t177.size : Int)) = True := eq_true (of_decide_eq_true (by first | (with_reducible assumption) | assumption))
                      replace q45 := eq_true q45
                      go_wp2
                      go_ret
                      exact ⟨by first | rfl | (simp [errW_none, errW_some] <;> rfl) | (simp [*, errW_none, errW_some] <;> rfl), by repeat (first | (with_reducible first | exact HB.out | apply below_alloc | apply pw_below_drewN | apply below_drew1) | exact HB.out)⟩
                    ·
                     rw [if_neg c44] at H
                     exact absurd H (by simp)
                   ·
                    rw [if_neg c43] at H
                    have c43b0 : decide (1 ≤ (t177.size : Int)) = false := decide_eq_false c43
                    have c43b1 : decide (1 ≤ t177.size) = false := decide_eq_false (by omega)
                    clear c43
                    obtain rfl := Option.some.inj H
                    go_wp2
                    go_ret
                    exact ⟨by first | rfl | (simp [errW_none, errW_some] <;> rfl) | (simp [*, errW_none, errW_some] <;> rfl), by repeat (first | (with_reducible first | exact HB.out | apply below_alloc | apply pw_below_drewN | apply below_drew1) | exact HB.out)⟩
                 ·
                  rw [if_neg c38] at H
                  have c38b0 : ((decide (t176 > 0)) == x14_4) = false := by simpa using c38
                  (try (have c38b1 : decide ((decide (t176 > 0)) = x14_4) = false := by simpa using c38))
                  (try (have c38b2 : ((decide (t176 > 0)) == x14_4) = false := by simpa using c38))
                  (try (have c38b3 : ¬ ((decide (t176 > 0)) = x14_4) := by simpa using c38))
                  clear c38
                  obtain rfl := Option.some.inj H
                  go_wp2
                  go_ret
                  exact ⟨by first | rfl | (simp [errW_none, errW_some] <;> rfl) | (simp [*, errW_none, errW_some] <;> rfl), by repeat (first | (with_reducible first | exact HB.out | apply below_alloc | apply pw_below_drewN | apply below_drew1) | exact HB.out)⟩
                ·
                 rw [if_neg c37] at H
                 have c37b0 : decide (3 ≤ (Int.tmod (wrap64 (a0)) 20)) = false := decide_eq_false c37
                 clear c37
                 by_cases c50 : ((decide (t176 > 0)) == false) = true
                 ·
                  rw [if_pos c50] at H
                  have c50b0 : ((decide (t176 > 0)) == false) = true := c50
                  (try (have c50b1 : decide ((decide (t176 > 0)) = false) = true := by simpa using c50))
                  (try (have c50b2 : ((decide (t176 > 0)) == false) = true := by simpa using c50))
                  clear c50
                  by_cases c51 : t176 = 0
                  ·
                   rw [if_pos c51] at H
                   have c51b0 : (t176 == 0) = true := beq_iff_eq.mpr c51
                   have c51b1 : (t176 != 0) = false := bne_eq_false_iff_eq.mpr c51
                   clear c51
                   by_cases c52 : x9_2.size + 1 ≤ 9223372036854775807
                   ·
                    rw [if_pos c52] at H
                    have c52b0 := eq_true c52
                    have c52b1 : decide (x9_2.size + 1 ≤ 9223372036854775807) = true := decide_eq_true c52
                    try have c52b2 : (9223372036854775807 < x9_2.size + 1) = False := eq_false (Nat.not_lt.2 c52)
                    by_cases c53 : (x9_2 ++ (⟨#[120]⟩ : ByteArray)).size + a2.size ≤ 9223372036854775807
                    ·
                     rw [if_pos c53] at H
                     have c53b0 := eq_true c53
                     have c53b1 : decide ((x9_2 ++ (⟨#[120]⟩ : ByteArray)).size + a2.size ≤ 9223372036854775807) = true := decide_eq_true c53
                     try have c53b2 : (9223372036854775807 < (x9_2 ++ (⟨#[120]⟩ : ByteArray)).size + a2.size) = False := eq_false (Nat.not_lt.2 c53)
                     (try (have c53s := c53; simp only [ByteArray.size_append, lit_size, List.length_cons, List.length_nil, Nat.zero_add, Nat.reduceAdd] at c53s; have c53s0 := eq_true c53s; have c53s1 := decide_eq_true c53s; have c53s2 := eq_false (Nat.not_lt.2 c53s); clear c53s))
                     replace H := Option.bind_eq_some_iff.mp H
                     obtain ⟨t180, A540, H⟩ := H
                     replace H : (some (!t180)) = some r := H
                     have A54 := Aside0.mk A540
                     clear A540
                     obtain rfl := Option.some.inj H
                     have tkA54 : True := trivial
                     go_wp2_with (first | (go_at_call 14; clear tkA54; (with_reducible refine (kind_Closes.calls k4 ((x9_2 ++ (⟨#[120]⟩ : ByteArray)) ++ a2) (Int.tmod (wrap64 (a1)) 20) t180 _ A54.out).mono ?_); rintro e w' ⟨rfl, ⟨nd, rfl⟩⟩))
                     go_ret
                     exact ⟨by first | rfl | (simp [errW_none, errW_some] <;> rfl) | (simp [*, errW_none, errW_some] <;> rfl), by repeat (first | (with_reducible first | exact HB.out | apply below_alloc | apply pw_below_drewN | apply below_drew1) | exact HB.out)⟩
                    ·
                     rw [if_neg c53] at H
                     exact absurd H (by simp)
                   ·
                    rw [if_neg c52] at H
                    exact absurd H (by simp)
                  ·
                   rw [if_neg c51] at H
                   have c51b0 : (t176 == 0) = false := beq_eq_false_iff_ne.mpr c51
                   have c51b1 : (t176 != 0) = true := bne_iff_ne.mpr c51
                   by_cases c55 : (t177.size : Int) ≥ 1
                   ·
                    rw [if_pos c55] at H
                    have c55b0 : decide (1 ≤ (t177.size : Int)) = true := decide_eq_true c55
                    have c55b1 : decide (1 ≤ t177.size) = true := decide_eq_true (by omega)
                    clear c55
                    by_cases c56 : 0 < (t177.size : Int)
                    ·
                     rw [if_pos c56] at H
                     have c56b0 : decide (0 < (t177.size : Int)) = true := decide_eq_true c56
                     have c56b1 : decide (0 < t177.size) = true := decide_eq_true (by omega)
                     clear c56
                     by_cases c58 : (bt t177 0) = 120
                     ·
                      rw [if_pos c58] at H
                      have c58b0 : ((bt t177 0) == 120) = true := beq_iff_eq.mpr c58
                      have c58b1 : ((bt t177 0) != 120) = false := bne_eq_false_iff_eq.mpr c58
                      clear c58
                      by_cases c59 : x9_2.size + 1 ≤ 9223372036854775807
                      ·
                       rw [if_pos c59] at H
                       have c59b0 := eq_true c59
                       have c59b1 : decide (x9_2.size + 1 ≤ 9223372036854775807) = true := decide_eq_true c59
                       try have c59b2 : (9223372036854775807 < x9_2.size + 1) = False := eq_false (Nat.not_lt.2 c59)
                       by_cases c60 : (x9_2 ++ (⟨#[120]⟩ : ByteArray)).size + a2.size ≤ 9223372036854775807
                       ·
                        rw [if_pos c60] at H
                        have c60b0 := eq_true c60
                        have c60b1 : decide ((x9_2 ++ (⟨#[120]⟩ : ByteArray)).size + a2.size ≤ 9223372036854775807) = true := decide_eq_true c60
                        try have c60b2 : (9223372036854775807 < (x9_2 ++ (⟨#[120]⟩ : ByteArray)).size + a2.size) = False := eq_false (Nat.not_lt.2 c60)
                        (try (have c60s := c60; simp only [ByteArray.size_append, lit_size, List.length_cons, List.length_nil, Nat.zero_add, Nat.reduceAdd] at c60s; have c60s0 := eq_true c60s; have c60s1 := decide_eq_true c60s; have c60s2 := eq_false (Nat.not_lt.2 c60s); clear c60s))
                        replace H := Option.bind_eq_some_iff.mp H
                        obtain ⟨t181, A610, H⟩ := H
                        replace H : (some (!t181)) = some r := H
                        have A61 := Aside0.mk A610
                        clear A610
                        obtain rfl := Option.some.inj H
                        have p57 : 0 ≤ (0 : Int) := (by omega)
                        have q57 : 0 < t177.size := (by have : (0 : Int) < (t177.size : Int) := of_decide_eq_true (by first | (with_reducible assumption) | assumption); omega)
                        have hx57 : ∀ h : 0 < t177.size, ((t177[0]'h).toNat : Int) = bt t177 0 := bt_at t177 0
                        clear p57
                        have qi57 : (0 < (t177.size : Int)) = True := eq_true (of_decide_eq_true (by first | (with_reducible assumption) | assumption))
                        replace q57 := eq_true q57
                        have tkA61 : True := trivial
                        go_wp2_with (first | (go_at_call 14; clear tkA61; (with_reducible refine (kind_Closes.calls k4 ((x9_2 ++ (⟨#[120]⟩ : ByteArray)) ++ a2) (Int.tmod (wrap64 (a1)) 20) t181 _ A61.out).mono ?_); rintro e w' ⟨rfl, ⟨nd, rfl⟩⟩))
                        go_ret
                        exact ⟨by first | rfl | (simp [errW_none, errW_some] <;> rfl) | (simp [*, errW_none, errW_some] <;> rfl), by repeat (first | (with_reducible first | exact HB.out | apply below_alloc | apply pw_below_drewN | apply below_drew1) | exact HB.out)⟩
                       ·
                        rw [if_neg c60] at H
                        exact absurd H (by simp)
                      ·
                       rw [if_neg c59] at H
                       exact absurd H (by simp)
                     ·
                      rw [if_neg c58] at H
                      have c58b0 : ((bt t177 0) == 120) = false := beq_eq_false_iff_ne.mpr c58
                      have c58b1 : ((bt t177 0) != 120) = true := bne_iff_ne.mpr c58
                      obtain rfl := Option.some.inj H
                      have p57 : 0 ≤ (0 : Int) := (by omega)
                      have q57 : 0 < t177.size := (by have : (0 : Int) < (t177.size : Int) := of_decide_eq_true (by first | (with_reducible assumption) | assumption); omega)
                      have hx57 : ∀ h : 0 < t177.size, ((t177[0]'h).toNat : Int) = bt t177 0 := bt_at t177 0
                      clear p57
                      have qi57 : (0 < (t177.size : Int)) = True := eq_true (of_decide_eq_true (by first | (with_reducible assumption) | assumption))
                      replace q57 := eq_true q57
                      go_wp2
                      go_ret
                      exact ⟨by first | rfl | (simp [errW_none, errW_some] <;> rfl) | (simp [*, errW_none, errW_some] <;> rfl), by repeat (first | (with_reducible first | exact HB.out | apply below_alloc | apply pw_below_drewN | apply below_drew1) | exact HB.out)⟩
                    ·
                     rw [if_neg c56] at H
                     exact absurd H (by simp)
                   ·
                    rw [if_neg c55] at H
                    have c55b0 : decide (1 ≤ (t177.size : Int)) = false := decide_eq_false c55
                    have c55b1 : decide (1 ≤ t177.size) = false := decide_eq_false (by omega)
                    clear c55
                    obtain rfl := Option.some.inj H
                    go_wp2
                    go_ret
                    exact ⟨by first | rfl | (simp [errW_none, errW_some] <;> rfl) | (simp [*, errW_none, errW_some] <;> rfl), by repeat (first | (with_reducible first | exact HB.out | apply below_alloc | apply pw_below_drewN | apply below_drew1) | exact HB.out)⟩
                 ·
                  rw [if_neg c50] at H
                  have c50b0 : ((decide (t176 > 0)) == false) = false := by simpa using c50
                  (try (have c50b1 : decide ((decide (t176 > 0)) = false) = false := by simpa using c50))
                  (try (have c50b2 : ((decide (t176 > 0)) == false) = false := by simpa using c50))
                  (try (have c50b3 : ¬ ((decide (t176 > 0)) = false) := by simpa using c50))
                  clear c50
                  obtain rfl := Option.some.inj H
                  go_wp2
                  go_ret
                  exact ⟨by first | rfl | (simp [errW_none, errW_some] <;> rfl) | (simp [*, errW_none, errW_some] <;> rfl), by repeat (first | (with_reducible first | exact HB.out | apply below_alloc | apply pw_below_drewN | apply below_drew1) | exact HB.out)⟩
               ·
                rw [if_neg c36] at H
                have c36b0 : (t176 == (Int.tmod (wrap64 (a0)) 20)) = false := beq_eq_false_iff_ne.mpr c36
                have c36b1 : (t176 != (Int.tmod (wrap64 (a0)) 20)) = true := bne_iff_ne.mpr c36
                by_cases c62 : (Int.tmod (wrap64 (a0)) 20) ≥ 3
                ·
                 rw [if_pos c62] at H
                 have c62b0 : decide (3 ≤ (Int.tmod (wrap64 (a0)) 20)) = true := decide_eq_true c62
                 clear c62
                 by_cases c63 : (false == x14_4) = true
                 ·
                  rw [if_pos c63] at H
                  have c63b0 : (false == x14_4) = true := c63
                  (try (have c63b1 : decide (false = x14_4) = true := by simpa using c63))
                  (try (have c63b2 : (false == x14_4) = true := by simpa using c63))
                  clear c63
                  by_cases c64 : t176 = 0
                  ·
                   rw [if_pos c64] at H
                   have c64b0 : (t176 == 0) = true := beq_iff_eq.mpr c64
                   have c64b1 : (t176 != 0) = false := bne_eq_false_iff_eq.mpr c64
                   clear c64
                   by_cases c65 : x9_2.size + 1 ≤ 9223372036854775807
                   ·
                    rw [if_pos c65] at H
                    have c65b0 := eq_true c65
                    have c65b1 : decide (x9_2.size + 1 ≤ 9223372036854775807) = true := decide_eq_true c65
                    try have c65b2 : (9223372036854775807 < x9_2.size + 1) = False := eq_false (Nat.not_lt.2 c65)
                    by_cases c66 : (x9_2 ++ (⟨#[120]⟩ : ByteArray)).size + a2.size ≤ 9223372036854775807
                    ·
                     rw [if_pos c66] at H
                     have c66b0 := eq_true c66
                     have c66b1 : decide ((x9_2 ++ (⟨#[120]⟩ : ByteArray)).size + a2.size ≤ 9223372036854775807) = true := decide_eq_true c66
                     try have c66b2 : (9223372036854775807 < (x9_2 ++ (⟨#[120]⟩ : ByteArray)).size + a2.size) = False := eq_false (Nat.not_lt.2 c66)
                     (try (have c66s := c66; simp only [ByteArray.size_append, lit_size, List.length_cons, List.length_nil, Nat.zero_add, Nat.reduceAdd] at c66s; have c66s0 := eq_true c66s; have c66s1 := decide_eq_true c66s; have c66s2 := eq_false (Nat.not_lt.2 c66s); clear c66s))
                     replace H := Option.bind_eq_some_iff.mp H
                     obtain ⟨t182, A670, H⟩ := H
                     replace H : (some (!t182)) = some r := H
                     have A67 := Aside0.mk A670
                     clear A670
                     obtain rfl := Option.some.inj H
                     have tkA67 : True := trivial
                     go_wp2_with (first | (go_at_call 14; clear tkA67; (with_reducible refine (kind_Closes.calls k4 ((x9_2 ++ (⟨#[120]⟩ : ByteArray)) ++ a2) (Int.tmod (wrap64 (a1)) 20) t182 _ A67.out).mono ?_); rintro e w' ⟨rfl, ⟨nd, rfl⟩⟩))
                     go_ret
                     exact ⟨by first | rfl | (simp [errW_none, errW_some] <;> rfl) | (simp [*, errW_none, errW_some] <;> rfl), by repeat (first | (with_reducible first | exact HB.out | apply below_alloc | apply pw_below_drewN | apply below_drew1) | exact HB.out)⟩
                    ·
                     rw [if_neg c66] at H
                     exact absurd H (by simp)
                   ·
                    rw [if_neg c65] at H
                    exact absurd H (by simp)
                  ·
                   rw [if_neg c64] at H
                   have c64b0 : (t176 == 0) = false := beq_eq_false_iff_ne.mpr c64
                   have c64b1 : (t176 != 0) = true := bne_iff_ne.mpr c64
                   by_cases c68 : (t177.size : Int) ≥ 1
                   ·
                    rw [if_pos c68] at H
                    have c68b0 : decide (1 ≤ (t177.size : Int)) = true := decide_eq_true c68
                    have c68b1 : decide (1 ≤ t177.size) = true := decide_eq_true (by omega)
                    clear c68
                    by_cases c69 : 0 < (t177.size : Int)
                    ·
                     rw [if_pos c69] at H
                     have c69b0 : decide (0 < (t177.size : Int)) = true := decide_eq_true c69
                     have c69b1 : decide (0 < t177.size) = true := decide_eq_true (by omega)
                     clear c69
                     by_cases c71 : (bt t177 0) = 120
                     ·
                      rw [if_pos c71] at H
                      have c71b0 : ((bt t177 0) == 120) = true := beq_iff_eq.mpr c71
                      have c71b1 : ((bt t177 0) != 120) = false := bne_eq_false_iff_eq.mpr c71
                      clear c71
                      by_cases c72 : x9_2.size + 1 ≤ 9223372036854775807
                      ·
                       rw [if_pos c72] at H
                       have c72b0 := eq_true c72
                       have c72b1 : decide (x9_2.size + 1 ≤ 9223372036854775807) = true := decide_eq_true c72
                       try have c72b2 : (9223372036854775807 < x9_2.size + 1) = False := eq_false (Nat.not_lt.2 c72)
                       by_cases c73 : (x9_2 ++ (⟨#[120]⟩ : ByteArray)).size + a2.size ≤ 9223372036854775807
                       ·
                        rw [if_pos c73] at H
                        have c73b0 := eq_true c73
                        have c73b1 : decide ((x9_2 ++ (⟨#[120]⟩ : ByteArray)).size + a2.size ≤ 9223372036854775807) = true := decide_eq_true c73
                        try have c73b2 : (9223372036854775807 < (x9_2 ++ (⟨#[120]⟩ : ByteArray)).size + a2.size) = False := eq_false (Nat.not_lt.2 c73)
                        (try (have c73s := c73; simp only [ByteArray.size_append, lit_size, List.length_cons, List.length_nil, Nat.zero_add, Nat.reduceAdd] at c73s; have c73s0 := eq_true c73s; have c73s1 := decide_eq_true c73s; have c73s2 := eq_false (Nat.not_lt.2 c73s); clear c73s))
                        replace H := Option.bind_eq_some_iff.mp H
                        obtain ⟨t183, A740, H⟩ := H
                        replace H : (some (!t183)) = some r := H
                        have A74 := Aside0.mk A740
                        clear A740
                        obtain rfl := Option.some.inj H
                        have p70 : 0 ≤ (0 : Int) := (by omega)
                        have q70 : 0 < t177.size := (by have : (0 : Int) < (t177.size : Int) := of_decide_eq_true (by first | (with_reducible assumption) | assumption); omega)
                        have hx70 : ∀ h : 0 < t177.size, ((t177[0]'h).toNat : Int) = bt t177 0 := bt_at t177 0
                        clear p70
                        have qi70 : (0 < (t177.size : Int)) = True := eq_true (of_decide_eq_true (by first | (with_reducible assumption) | assumption))
                        replace q70 := eq_true q70
                        have tkA74 : True := trivial
                        go_wp2_with (first | (go_at_call 14; clear tkA74; (with_reducible refine (kind_Closes.calls k4 ((x9_2 ++ (⟨#[120]⟩ : ByteArray)) ++ a2) (Int.tmod (wrap64 (a1)) 20) t183 _ A74.out).mono ?_); rintro e w' ⟨rfl, ⟨nd, rfl⟩⟩))
                        go_ret
                        exact ⟨by first | rfl | (simp [errW_none, errW_some] <;> rfl) | (simp [*, errW_none, errW_some] <;> rfl), by repeat (first | (with_reducible first | exact HB.out | apply below_alloc | apply pw_below_drewN | apply below_drew1) | exact HB.out)⟩
                       ·
                        rw [if_neg c73] at H
                        exact absurd H (by simp)
                      ·
                       rw [if_neg c72] at H
                       exact absurd H (by simp)
                     ·
                      rw [if_neg c71] at H
                      have c71b0 : ((bt t177 0) == 120) = false := beq_eq_false_iff_ne.mpr c71
                      have c71b1 : ((bt t177 0) != 120) = true := bne_iff_ne.mpr c71
                      obtain rfl := Option.some.inj H
                      have p70 : 0 ≤ (0 : Int) := (by omega)
                      have q70 : 0 < t177.size := (by have : (0 : Int) < (t177.size : Int) := of_decide_eq_true (by first | (with_reducible assumption) | assumption); omega)
                      have hx70 : ∀ h : 0 < t177.size, ((t177[0]'h).toNat : Int) = bt t177 0 := bt_at t177 0
                      clear p70
                      have qi70 : (0 < (t177.size : Int)) = True := eq_true (of_decide_eq_true (by first | (with_reducible assumption) | assumption))
                      replace q70 := eq_true q70
                      go_wp2
                      go_ret
                      exact ⟨by first | rfl | (simp [errW_none, errW_some] <;> rfl) | (simp [*, errW_none, errW_some] <;> rfl), by repeat (first | (with_reducible first | exact HB.out | apply below_alloc | apply pw_below_drewN | apply below_drew1) | exact HB.out)⟩
                    ·
                     rw [if_neg c69] at H
                     exact absurd H (by simp)
                   ·
                    rw [if_neg c68] at H
                    have c68b0 : decide (1 ≤ (t177.size : Int)) = false := decide_eq_false c68
                    have c68b1 : decide (1 ≤ t177.size) = false := decide_eq_false (by omega)
                    clear c68
                    obtain rfl := Option.some.inj H
                    go_wp2
                    go_ret
                    exact ⟨by first | rfl | (simp [errW_none, errW_some] <;> rfl) | (simp [*, errW_none, errW_some] <;> rfl), by repeat (first | (with_reducible first | exact HB.out | apply below_alloc | apply pw_below_drewN | apply below_drew1) | exact HB.out)⟩
                 ·
                  rw [if_neg c63] at H
                  have c63b0 : (false == x14_4) = false := by simpa using c63
                  (try (have c63b1 : decide (false = x14_4) = false := by simpa using c63))
                  (try (have c63b2 : (false == x14_4) = false := by simpa using c63))
                  (try (have c63b3 : ¬ (false = x14_4) := by simpa using c63))
                  clear c63
                  obtain rfl := Option.some.inj H
                  go_wp2
                  go_ret
                  exact ⟨by first | rfl | (simp [errW_none, errW_some] <;> rfl) | (simp [*, errW_none, errW_some] <;> rfl), by repeat (first | (with_reducible first | exact HB.out | apply below_alloc | apply pw_below_drewN | apply below_drew1) | exact HB.out)⟩
                ·
                 rw [if_neg c62] at H
                 have c62b0 : decide (3 ≤ (Int.tmod (wrap64 (a0)) 20)) = false := decide_eq_false c62
                 clear c62
                 by_cases c75 : (false == false) = true
                 ·
                  rw [if_pos c75] at H
                  have c75b0 : (false == false) = true := c75
                  (try (have c75b1 : decide (false = false) = true := by simp))
                  (try (have c75b2 : (false == false) = true := by simp))
                  clear c75
                  by_cases c76 : t176 = 0
                  ·
                   rw [if_pos c76] at H
                   have c76b0 : (t176 == 0) = true := beq_iff_eq.mpr c76
                   have c76b1 : (t176 != 0) = false := bne_eq_false_iff_eq.mpr c76
                   clear c76
                   by_cases c77 : x9_2.size + 1 ≤ 9223372036854775807
                   ·
                    rw [if_pos c77] at H
                    have c77b0 := eq_true c77
                    have c77b1 : decide (x9_2.size + 1 ≤ 9223372036854775807) = true := decide_eq_true c77
                    try have c77b2 : (9223372036854775807 < x9_2.size + 1) = False := eq_false (Nat.not_lt.2 c77)
                    by_cases c78 : (x9_2 ++ (⟨#[120]⟩ : ByteArray)).size + a2.size ≤ 9223372036854775807
                    ·
                     rw [if_pos c78] at H
                     have c78b0 := eq_true c78
                     have c78b1 : decide ((x9_2 ++ (⟨#[120]⟩ : ByteArray)).size + a2.size ≤ 9223372036854775807) = true := decide_eq_true c78
                     try have c78b2 : (9223372036854775807 < (x9_2 ++ (⟨#[120]⟩ : ByteArray)).size + a2.size) = False := eq_false (Nat.not_lt.2 c78)
                     (try (have c78s := c78; simp only [ByteArray.size_append, lit_size, List.length_cons, List.length_nil, Nat.zero_add, Nat.reduceAdd] at c78s; have c78s0 := eq_true c78s; have c78s1 := decide_eq_true c78s; have c78s2 := eq_false (Nat.not_lt.2 c78s); clear c78s))
                     replace H := Option.bind_eq_some_iff.mp H
                     obtain ⟨t184, A790, H⟩ := H
                     replace H : (some (!t184)) = some r := H
                     have A79 := Aside0.mk A790
                     clear A790
                     obtain rfl := Option.some.inj H
                     have tkA79 : True := trivial
                     go_wp2_with (first | (go_at_call 14; clear tkA79; (with_reducible refine (kind_Closes.calls k4 ((x9_2 ++ (⟨#[120]⟩ : ByteArray)) ++ a2) (Int.tmod (wrap64 (a1)) 20) t184 _ A79.out).mono ?_); rintro e w' ⟨rfl, ⟨nd, rfl⟩⟩))
                     go_ret
                     exact ⟨by first | rfl | (simp [errW_none, errW_some] <;> rfl) | (simp [*, errW_none, errW_some] <;> rfl), by repeat (first | (with_reducible first | exact HB.out | apply below_alloc | apply pw_below_drewN | apply below_drew1) | exact HB.out)⟩
                    ·
                     rw [if_neg c78] at H
                     exact absurd H (by simp)
                   ·
                    rw [if_neg c77] at H
                    exact absurd H (by simp)
                  ·
                   rw [if_neg c76] at H
                   have c76b0 : (t176 == 0) = false := beq_eq_false_iff_ne.mpr c76
                   have c76b1 : (t176 != 0) = true := bne_iff_ne.mpr c76
                   by_cases c80 : (t177.size : Int) ≥ 1
                   ·
                    rw [if_pos c80] at H
                    have c80b0 : decide (1 ≤ (t177.size : Int)) = true := decide_eq_true c80
                    have c80b1 : decide (1 ≤ t177.size) = true := decide_eq_true (by omega)
                    clear c80
                    by_cases c81 : 0 < (t177.size : Int)
                    ·
                     rw [if_pos c81] at H
                     have c81b0 : decide (0 < (t177.size : Int)) = true := decide_eq_true c81
                     have c81b1 : decide (0 < t177.size) = true := decide_eq_true (by omega)
                     clear c81
                     by_cases c83 : (bt t177 0) = 120
                     ·
                      rw [if_pos c83] at H
                      have c83b0 : ((bt t177 0) == 120) = true := beq_iff_eq.mpr c83
                      have c83b1 : ((bt t177 0) != 120) = false := bne_eq_false_iff_eq.mpr c83
                      clear c83
                      by_cases c84 : x9_2.size + 1 ≤ 9223372036854775807
                      ·
                       rw [if_pos c84] at H
                       have c84b0 := eq_true c84
                       have c84b1 : decide (x9_2.size + 1 ≤ 9223372036854775807) = true := decide_eq_true c84
                       try have c84b2 : (9223372036854775807 < x9_2.size + 1) = False := eq_false (Nat.not_lt.2 c84)
                       by_cases c85 : (x9_2 ++ (⟨#[120]⟩ : ByteArray)).size + a2.size ≤ 9223372036854775807
                       ·
                        rw [if_pos c85] at H
                        have c85b0 := eq_true c85
                        have c85b1 : decide ((x9_2 ++ (⟨#[120]⟩ : ByteArray)).size + a2.size ≤ 9223372036854775807) = true := decide_eq_true c85
                        try have c85b2 : (9223372036854775807 < (x9_2 ++ (⟨#[120]⟩ : ByteArray)).size + a2.size) = False := eq_false (Nat.not_lt.2 c85)
                        (try (have c85s := c85; simp only [ByteArray.size_append, lit_size, List.length_cons, List.length_nil, Nat.zero_add, Nat.reduceAdd] at c85s; have c85s0 := eq_true c85s; have c85s1 := decide_eq_true c85s; have c85s2 := eq_false (Nat.not_lt.2 c85s); clear c85s))
                        replace H := Option.bind_eq_some_iff.mp H
                        obtain ⟨t185, A860, H⟩ := H
                        replace H : (some (!t185)) = some r := H
                        have A86 := Aside0.mk A860
                        clear A860
                        obtain rfl := Option.some.inj H
                        have p82 : 0 ≤ (0 : Int) := (by omega)
                        have q82 : 0 < t177.size := (by have : (0 : Int) < (t177.size : Int) := of_decide_eq_true (by first | (with_reducible assumption) | assumption); omega)
                        have hx82 : ∀ h : 0 < t177.size, ((t177[0]'h).toNat : Int) = bt t177 0 := bt_at t177 0
                        clear p82
                        have qi82 : (0 < (t177.size : Int)) = True := eq_true (of_decide_eq_true (by first | (with_reducible assumption) | assumption))
                        replace q82 := eq_true q82
                        have tkA86 : True := trivial
                        go_wp2_with (first | (go_at_call 14; clear tkA86; (with_reducible refine (kind_Closes.calls k4 ((x9_2 ++ (⟨#[120]⟩ : ByteArray)) ++ a2) (Int.tmod (wrap64 (a1)) 20) t185 _ A86.out).mono ?_); rintro e w' ⟨rfl, ⟨nd, rfl⟩⟩))
                        go_ret
                        exact ⟨by first | rfl | (simp [errW_none, errW_some] <;> rfl) | (simp [*, errW_none, errW_some] <;> rfl), by repeat (first | (with_reducible first | exact HB.out | apply below_alloc | apply pw_below_drewN | apply below_drew1) | exact HB.out)⟩
                       ·
                        rw [if_neg c85] at H
                        exact absurd H (by simp)
                      ·
                       rw [if_neg c84] at H
                       exact absurd H (by simp)
                     ·
                      rw [if_neg c83] at H
                      have c83b0 : ((bt t177 0) == 120) = false := beq_eq_false_iff_ne.mpr c83
                      have c83b1 : ((bt t177 0) != 120) = true := bne_iff_ne.mpr c83
                      obtain rfl := Option.some.inj H
                      have p82 : 0 ≤ (0 : Int) := (by omega)
                      have q82 : 0 < t177.size := (by have : (0 : Int) < (t177.size : Int) := of_decide_eq_true (by first | (with_reducible assumption) | assumption); omega)
                      have hx82 : ∀ h : 0 < t177.size, ((t177[0]'h).toNat : Int) = bt t177 0 := bt_at t177 0
                      clear p82
                      have qi82 : (0 < (t177.size : Int)) = True := eq_true (of_decide_eq_true (by first | (with_reducible assumption) | assumption))
                      replace q82 := eq_true q82
                      go_wp2
                      go_ret
                      exact ⟨by first | rfl | (simp [errW_none, errW_some] <;> rfl) | (simp [*, errW_none, errW_some] <;> rfl), by repeat (first | (with_reducible first | exact HB.out | apply below_alloc | apply pw_below_drewN | apply below_drew1) | exact HB.out)⟩
                    ·
                     rw [if_neg c81] at H
                     exact absurd H (by simp)
                   ·
                    rw [if_neg c80] at H
                    have c80b0 : decide (1 ≤ (t177.size : Int)) = false := decide_eq_false c80
                    have c80b1 : decide (1 ≤ t177.size) = false := decide_eq_false (by omega)
                    clear c80
                    obtain rfl := Option.some.inj H
                    go_wp2
                    go_ret
                    exact ⟨by first | rfl | (simp [errW_none, errW_some] <;> rfl) | (simp [*, errW_none, errW_some] <;> rfl), by repeat (first | (with_reducible first | exact HB.out | apply below_alloc | apply pw_below_drewN | apply below_drew1) | exact HB.out)⟩
                 ·
                  exact absurd rfl c75
           ·
            rw [if_neg c28] at H
            exact absurd H (by simp)
          ·
           rw [if_neg c27] at H
           exact absurd H (by simp)

end Go.Proofs.YticaofendehebaaDoor.X
