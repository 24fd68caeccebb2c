-- Written by a program of this session (wip/mkprint.py over the kit's print) out of the translation; Lean checks it.
import Derived.Test.YticaofendehebaaDoorX0
import Derived.Test.YticaofendehebaaDoorX7
import Derived.Test.YticaofendehebaaDoorX11
import Derived.Test.YticaofendehebaaDoorGivenTabs
import Derived.Test.YticaofendehebaaDoorGivenDef
namespace Go.Proofs.YticaofendehebaaDoor.X
open Go.RowKit Go.Proofs.YticaofendehebaaDoor.G Go.Proofs.YticaofendehebaaDoorW.PrintWords Go.Proofs.YticaofendehebaaDoorW.PrintLast Go.Proofs.YticaofendehebaaDoorW.PrintMore
attribute [local go_sem] max2_int min2_int max_two min_two max_three min_three max_four min_four   -- for this text's walks alone
set_option linter.unusedVariables false
set_option linter.unusedSimpArgs false

/-! ### emendationlaw11_KindHeads: function 4 -/
mutual
def emendationlaw11_KindHeads.j0 : Nat → Int → ByteArray → ByteArray → ByteArray → Bool → Option (Bool)
 | 0, _, _, _, _, _ => none
 | k + 1, x0, x1, x2, x3, x27 => if x27 = true then ((emendationlaw11_awake.f k).bind fun t349 => (some t349)) else (emendationlaw11_KindHeads.l0 k x1 x2 x3 (wrap64 (1 + (Int.tmod (wrap64 (x0)) 8))) (⟨#[]⟩ : ByteArray) (wrap64 (1 + (Int.tmod (wrap64 (x0)) 8))) 0)
def emendationlaw11_KindHeads.l0 : Nat → ByteArray → ByteArray → ByteArray → Int → ByteArray → Int → Int → Option (Bool)
 | 0, _, _, _, _, _, _, _ => none
 | k + 1, x1, x2, x3, x9, x10, x33, x34 => if x34 < x33 then (if x10.size + 1 ≤ 9223372036854775807 then (emendationlaw11_KindHeads.l0 k x1 x2 x3 x9 (x10 ++ (⟨#[35]⟩ : ByteArray)) x33 (wrap64 (x34 + 1))) else (none)) else (if x10.size + 1 ≤ 9223372036854775807 then (if (x10 ++ (⟨#[32]⟩ : ByteArray)).size + x1.size ≤ 9223372036854775807 then ((kind_Head.f k ((x10 ++ (⟨#[32]⟩ : ByteArray)) ++ x1)).bind fun bt350 => (if ((bt350.1 == x9) != (decide (x9 ≤ 6))) = true then (emendationlaw11_KindHeads.j2 k x1 x2 x3 bt350.1 bt350.2 true) else (if bt350.1 = 0 then (emendationlaw11_KindHeads.j2 k x1 x2 x3 bt350.1 bt350.2 false) else (emendationlaw11_KindHeads.j2 k x1 x2 x3 bt350.1 bt350.2 (bt350.1 != x9))))) else (none)) else (none))
def emendationlaw11_KindHeads.j2 : Nat → ByteArray → ByteArray → ByteArray → Int → ByteArray → Bool → Option (Bool)
 | 0, _, _, _, _, _, _ => none
 | k + 1, x1, x2, x3, x11, x12, x61 => if x61 = true then (some false) else (emendationlaw11_KindHeads.l1 k x1 x2 x3 x11 x12)
def emendationlaw11_KindHeads.j4 : Nat → ByteArray → ByteArray → ByteArray → Int → ByteArray → Option (Bool)
 | 0, _, _, _, _, _ => none
 | k + 1, x1, x2, x3, x11, x12 => emendationlaw11_KindHeads.l2 k x1 x2 x3 x11 x12
def emendationlaw11_KindHeads.j6 : Nat → ByteArray → ByteArray → ByteArray → Int → ByteArray → Option (Bool)
 | 0, _, _, _, _, _ => none
 | k + 1, x1, x2, x3, x11, x12 => if x11 = 0 then (emendationlaw11_KindHeads.j7 k x2 x3 false) else (emendationlaw11_KindHeads.j7 k x2 x3 (x12.toList != x1.toList))
def emendationlaw11_KindHeads.j7 : Nat → ByteArray → ByteArray → Bool → Option (Bool)
 | 0, _, _, _ => none
 | k + 1, x2, x3, x107 => if x107 = true then (some false) else (if 1 + x2.size ≤ 9223372036854775807 then (if ((⟨#[91]⟩ : ByteArray) ++ x2).size + 3 ≤ 9223372036854775807 then (if (((⟨#[91]⟩ : ByteArray) ++ x2) ++ (⟨#[93, 58, 32]⟩ : ByteArray)).size + x3.size ≤ 9223372036854775807 then ((kind_Define.f k ((((⟨#[91]⟩ : ByteArray) ++ x2) ++ (⟨#[93, 58, 32]⟩ : ByteArray)) ++ x3)).bind fun bt352 => ((emendationref10_Right.f k (([(⟨8, 0, x2, (([x3] : List ByteArray)), ([] : List (S57)), ([] : List (S32))⟩ : S32)] : List (S32)))).bind fun t371 => (if ((bt352.1 == 8) == t371) = true then (if t371 = true then (if bt352.2.2.1.toList = x2.toList then (if (bt352.2.2.2.1.length : Int) = 1 then (if 0 < (bt352.2.2.2.1.length : Int) then (some ((rdOf ByteArray.empty bt352.2.2.2.1 0).toList == x3.toList)) else (none)) else (some false)) else (some false)) else (some true)) else (some false)))) else (none)) else (none)) else (none))
def emendationlaw11_KindHeads.l2 : Nat → ByteArray → ByteArray → ByteArray → Int → ByteArray → Option (Bool)
 | 0, _, _, _, _, _ => none
 | k + 1, x1, x2, x3, x11, x12 => if (x1.size : Int) > 0 then (if 0 ≤ (wrap64 ((x1.size : Int) - 1)) then (if (wrap64 ((x1.size : Int) - 1)) < (x1.size : Int) then (if (bt x1 (wrap64 ((x1.size : Int) - 1))) = 32 then (if (wrap64 ((x1.size : Int) - 1)) ≤ (x1.size : Int) then (emendationlaw11_KindHeads.l2 k (x1.extract 0 ((wrap64 ((x1.size : Int) - 1)) : Int).toNat) x2 x3 x11 x12) else (none)) else (if (bt x1 (wrap64 ((x1.size : Int) - 1))) = 9 then (if (wrap64 ((x1.size : Int) - 1)) ≤ (x1.size : Int) then (emendationlaw11_KindHeads.l2 k (x1.extract 0 ((wrap64 ((x1.size : Int) - 1)) : Int).toNat) x2 x3 x11 x12) else (none)) else (emendationlaw11_KindHeads.j6 k x1 x2 x3 x11 x12))) else (none)) else (none)) else (emendationlaw11_KindHeads.j6 k x1 x2 x3 x11 x12)
def emendationlaw11_KindHeads.l1 : Nat → ByteArray → ByteArray → ByteArray → Int → ByteArray → Option (Bool)
 | 0, _, _, _, _, _ => none
 | k + 1, x1, x2, x3, x11, x12 => if (x1.size : Int) > 0 then (if 0 < (x1.size : Int) then (if (bt x1 0) = 32 then (if 1 ≤ (x1.size : Int) then (emendationlaw11_KindHeads.l1 k (x1.extract 1 x1.size) x2 x3 x11 x12) else (none)) else (if (bt x1 0) = 9 then (if 1 ≤ (x1.size : Int) then (emendationlaw11_KindHeads.l1 k (x1.extract 1 x1.size) x2 x3 x11 x12) else (none)) else (emendationlaw11_KindHeads.j4 k x1 x2 x3 x11 x12))) else (none)) else (emendationlaw11_KindHeads.j4 k x1 x2 x3 x11 x12)
end
def emendationlaw11_KindHeads.f (k : Nat) (a0 : Int) (a1 : ByteArray) (a2 : ByteArray) (a3 : ByteArray) : Option (Bool) := (emendationlaw11_awake.f k).bind fun t348 => (if t348 = true then (emendationlaw11_KindHeads.j0 k a0 a1 a2 a3 (decide ((wrap64 ((wrap64 ((a1.size : Int) + (a2.size : Int))) + (a3.size : Int))) > 1000))) else (emendationlaw11_KindHeads.j0 k a0 a1 a2 a3 true))
set_option maxHeartbeats 8000000 in
set_option maxRecDepth 100000 in
theorem emendationlaw11_KindHeads.calls (k : Nat) (a0 : Int) (a1 : ByteArray) (a2 : ByteArray) (a3 : ByteArray) (r : Bool) (w : World) (hT : Tabs w) (h : emendationlaw11_KindHeads.f k a0 a1 a2 a3 = some r) :
  Calls Tryd.prog 4 #[.int .u8 a0, .string a1, .string a2, .string a3] w fun e w' => e = .returned (.bool r) ∧ Below w.heap.size w w' := by
 have hu32 := Tryd.underlying32
 have HT := Aside0.mk hT
 clear hT
 have HB := Aside0.mk (Below.refl w.heap.size w)
 have H : ((emendationlaw11_awake.f k).bind fun t348 => (if t348 = true then (emendationlaw11_KindHeads.j0 k a0 a1 a2 a3 (decide ((wrap64 ((wrap64 ((a1.size : Int) + (a2.size : Int))) + (a3.size : Int))) > 1000))) else (emendationlaw11_KindHeads.j0 k a0 a1 a2 a3 true))) = some r := h
 clear h
 have HC5 := Aside0.mk H
 clear H
 go_enter Tryd.func4, Tryd.ntmps4
 go_upto_region 1 with (fail)
 go_cut [27] (fun v27 wc => ∃ (kq : Nat) (x27_4 : Bool), v27 = .bool x27_4 ∧ Aside0 (emendationlaw11_KindHeads.j0 kq a0 a1 a2 a3 x27_4 = some r) ∧ Aside0 (kq ≤ k) ∧ Aside0 (Below w.heap.size w wc))
 case first =>
  have H := HC5.out
  clear HC5
  replace H := Option.bind_eq_some_iff.mp H
  obtain ⟨t348, A60, H⟩ := H
  replace H : (if t348 = true then (emendationlaw11_KindHeads.j0 k a0 a1 a2 a3 (decide ((wrap64 ((wrap64 ((a1.size : Int) + (a2.size : Int))) + (a3.size : Int))) > 1000))) else (emendationlaw11_KindHeads.j0 k a0 a1 a2 a3 true)) = some r := H
  have A6 := Aside0.mk A60
  clear A60
  by_cases c7 : t348 = true
  ·
   subst c7
   have H1 : (emendationlaw11_KindHeads.j0 k a0 a1 a2 a3 (decide ((wrap64 ((wrap64 ((a1.size : Int) + (a2.size : Int))) + (a3.size : Int))) > 1000))) = some r := by rw [if_pos rfl] at H; exact H
   clear H
   have H := H1
   clear H1
   have H' := Aside0.mk H
   clear H
   go_wp2_with (first | ((with_reducible refine gate_callee (f := 8) rfl ?_); refine goesL_ (some 15) rfl rfl Tryd.func8 (by kernel_rfl) rfl #[] rfl (by (try simp only [List.map_toArray, List.map_cons, List.map_nil]); first | done | rfl | (simp only [List.length_drop, List.length_take]; rfl)) ?_; (with_reducible refine (emendationlaw11_awake.calls k  true _ ?side1 A6.out).mono ?_); (case side1 => first | exact HT.out | exact Tabs.at HT.out (by repeat (first | (with_reducible first | exact HB.out | apply below_alloc | apply pw_below_drewN | apply below_drew1) | exact HB.out))); rintro e w8 ⟨rfl, hb⟩; refine ⟨_, rfl, ?_⟩; have n0_ := Aside0.mk (below_step (by repeat (first | (with_reducible first | exact HB.out | apply below_alloc | apply pw_below_drewN | apply below_drew1) | exact HB.out)) hb); clear HB; have HB := n0_; clear n0_; (try clear hb); (try clear hb2); (try clear hk); (try clear hi)))
   go_meet
   case rel => exact ⟨_, (decide ((wrap64 ((wrap64 ((a1.size : Int) + (a2.size : Int))) + (a3.size : Int))) > 1000)), (by first | rfl | (simp; done) | (simp [*]; done) | (simp [bne, beq_nil_E]; done)), H', ⟨by first | omega | exact Nat.le_refl _⟩, ⟨by repeat (first | (with_reducible first | exact HB.out | apply below_alloc | apply pw_below_drewN | apply below_drew1) | exact HB.out)⟩⟩
  ·
   replace c7 := Bool.eq_false_iff.mpr c7
   subst c7
   have H1 : (emendationlaw11_KindHeads.j0 k a0 a1 a2 a3 true) = some r := by rw [if_neg (show ¬ (false = true) by decide)] at H; exact H
   clear H
   have H := H1
   clear H1
   have H' := Aside0.mk H
   clear H
   go_wp2_with (first | ((with_reducible refine gate_callee (f := 8) rfl ?_); refine goesL_ (some 15) rfl rfl Tryd.func8 (by kernel_rfl) rfl #[] rfl (by (try simp only [List.map_toArray, List.map_cons, List.map_nil]); first | done | rfl | (simp only [List.length_drop, List.length_take]; rfl)) ?_; (with_reducible refine (emendationlaw11_awake.calls k  false _ ?side1 A6.out).mono ?_); (case side1 => first | exact HT.out | exact Tabs.at HT.out (by repeat (first | (with_reducible first | exact HB.out | apply below_alloc | apply pw_below_drewN | apply below_drew1) | exact HB.out))); rintro e w9 ⟨rfl, hb⟩; refine ⟨_, rfl, ?_⟩; have n0_ := Aside0.mk (below_step (by repeat (first | (with_reducible first | exact HB.out | apply below_alloc | apply pw_below_drewN | apply below_drew1) | exact HB.out)) hb); clear HB; have HB := n0_; clear n0_; (try clear hb); (try clear hb2); (try clear hk); (try clear hi)))
   go_meet
   case rel => exact ⟨_, (true), (by first | rfl | (simp; done) | (simp [*]; done) | (simp [bne, beq_nil_E]; done)), H', ⟨by first | omega | exact Nat.le_refl _⟩, ⟨by repeat (first | (with_reducible first | exact HB.out | apply below_alloc | apply pw_below_drewN | apply below_drew1) | exact HB.out)⟩⟩
 case rest =>
  clear HC5
  try clear p2
  try clear c4
  try clear p6
  try clear c7
  try clear c8
  obtain ⟨kq, x27_4, rfl, HA, HJ4, HB⟩ := hcut
  cases kq with
  | zero => exact absurd HA.out (by simp [emendationlaw11_KindHeads.j0])
  | succ kj4 =>
   have H := HA.out
   clear HA
   simp only [emendationlaw11_KindHeads.j0] at H
   by_cases c10 : x27_4 = true
   ·
    subst c10
    have H1 : ((emendationlaw11_awake.f kj4).bind fun t349 => (some t349)) = some r := by rw [if_pos rfl] at H; exact H
    clear H
    have H := H1
    clear H1
    replace H := Option.bind_eq_some_iff.mp H
    obtain ⟨t349, A110, H⟩ := H
    replace H : (some t349) = some r := H
    have A11 := Aside0.mk A110
    clear A110
    obtain rfl := Option.some.inj H
    go_wp2_with (first | ((with_reducible refine gate_callee (f := 8) rfl ?_); refine goesL_ (some 28) rfl rfl Tryd.func8 (by kernel_rfl) rfl #[] rfl (by (try simp only [List.map_toArray, List.map_cons, List.map_nil]); first | done | rfl | (simp only [List.length_drop, List.length_take]; rfl)) ?_; (with_reducible refine (emendationlaw11_awake.calls kj4  t349 _ ?side1 A11.out).mono ?_); (case side1 => first | exact HT.out | exact Tabs.at HT.out (by repeat (first | (with_reducible first | exact HB.out | apply below_alloc | apply pw_below_drewN | apply below_drew1) | exact HB.out))); rintro e w12 ⟨rfl, hb⟩; refine ⟨_, rfl, ?_⟩; have n0_ := Aside0.mk (below_step (by repeat (first | (with_reducible first | exact HB.out | apply below_alloc | apply pw_below_drewN | apply below_drew1) | exact HB.out)) hb); clear HB; have HB := n0_; clear n0_; (try clear hb); (try clear hb2); (try clear hk); (try clear hi)))
    go_ret
    exact ⟨by first | rfl | (simp [errW_none, errW_some] <;> rfl) | (simp [*, errW_none, errW_some] <;> rfl), by repeat (first | (with_reducible first | exact HB.out | apply below_alloc | apply pw_below_drewN | apply below_drew1) | exact HB.out)⟩
   ·
    replace c10 := Bool.eq_false_iff.mpr c10
    subst c10
    have H1 : (emendationlaw11_KindHeads.l0 kj4 a1 a2 a3 (wrap64 (1 + (Int.tmod (wrap64 (a0)) 8))) (⟨#[]⟩ : ByteArray) (wrap64 (1 + (Int.tmod (wrap64 (a0)) 8))) 0) = some r := by rw [if_neg (show ¬ (false = true) by decide)] at H; exact H
    clear H
    have H := H1
    clear H1
    have H' := Aside0.mk H
    clear H
    go_wp2
    go_loopg [10, 34] kj4 (fun kq v10 v34 w' => ∃ (x10_2 : ByteArray) (x34_2 : Int), v10 = .string x10_2 ∧ v34 = .int .i64 x34_2 ∧ Aside0 (emendationlaw11_KindHeads.l0 kq a1 a2 a3 (wrap64 (1 + (Int.tmod (wrap64 (a0)) 8))) x10_2 (wrap64 (1 + (Int.tmod (wrap64 (a0)) 8))) x34_2 = some r) ∧ Aside0 (kq ≤ kj4) ∧ Aside0 (Below w.heap.size w w'))
    case atStart => exact ⟨((⟨#[]⟩ : ByteArray)), (0), (by first | rfl | (simp; done) | (simp [*]; done) | (simp [bne, beq_nil_E]; done)), (by first | rfl | (simp; done) | (simp [*]; done) | (simp [bne, beq_nil_E]; done)), H', ⟨Nat.le_refl _⟩, ⟨by repeat (first | (with_reducible first | exact HB.out | apply below_alloc | apply pw_below_drewN | apply below_drew1) | exact HB.out)⟩⟩
    case round =>
     clear H'
     try clear c1
     try clear p2
     try clear c4
     try clear p6
     try clear c7
     try clear c8
     try clear c10
     try clear p2
     try clear p6
     obtain ⟨x10_2, x34_2, rfl, rfl, HA, HK2, HB⟩ := hrel
     cases gk with
     | zero => exact absurd HA.out (by simp [emendationlaw11_KindHeads.l0])
     | succ k2 =>
      have H := HA.out
      clear HA
      simp only [emendationlaw11_KindHeads.l0] at H
      by_cases c13 : x34_2 < (wrap64 (1 + (Int.tmod (wrap64 (a0)) 8)))
      ·
       rw [if_pos c13] at H
       have c13b0 : decide (x34_2 < (wrap64 (1 + (Int.tmod (wrap64 (a0)) 8)))) = true := decide_eq_true c13
       clear c13
       by_cases c14 : x10_2.size + 1 ≤ 9223372036854775807
       ·
        rw [if_pos c14] at H
        have c14b0 := eq_true c14
        have c14b1 : decide (x10_2.size + 1 ≤ 9223372036854775807) = true := decide_eq_true c14
        try have c14b2 : (9223372036854775807 < x10_2.size + 1) = False := eq_false (Nat.not_lt.2 c14)
        have H' := Aside0.mk H
        clear H
        go_wp2
        go_roundg k2
        case measure => have := HJ4.out; have := HK2.out; omega
        case rel => exact ⟨(x10_2 ++ (⟨#[35]⟩ : ByteArray)), (wrap64 (x34_2 + 1)), (by first | rfl | (simp; done) | (simp [*]; done) | (simp [bne, beq_nil_E]; done)), (by first | rfl | (simp; done) | (simp [*]; done) | (simp [bne, beq_nil_E]; done)), H', ⟨by have := HJ4.out; have := HK2.out; omega⟩, ⟨by repeat (first | (with_reducible first | exact HB.out | apply below_alloc | apply pw_below_drewN | apply below_drew1) | exact HB.out)⟩⟩
       ·
        rw [if_neg c14] at H
        exact absurd H (by simp)
      ·
       rw [if_neg c13] at H
       have c13b0 : decide (x34_2 < (wrap64 (1 + (Int.tmod (wrap64 (a0)) 8)))) = false := decide_eq_false c13
       clear c13
       by_cases c15 : x10_2.size + 1 ≤ 9223372036854775807
       ·
        rw [if_pos c15] at H
        have c15b0 := eq_true c15
        have c15b1 : decide (x10_2.size + 1 ≤ 9223372036854775807) = true := decide_eq_true c15
        try have c15b2 : (9223372036854775807 < x10_2.size + 1) = False := eq_false (Nat.not_lt.2 c15)
        by_cases c16 : (x10_2 ++ (⟨#[32]⟩ : ByteArray)).size + a1.size ≤ 9223372036854775807
        ·
         rw [if_pos c16] at H
         have c16b0 := eq_true c16
         have c16b1 : decide ((x10_2 ++ (⟨#[32]⟩ : ByteArray)).size + a1.size ≤ 9223372036854775807) = true := decide_eq_true c16
         try have c16b2 : (9223372036854775807 < (x10_2 ++ (⟨#[32]⟩ : ByteArray)).size + a1.size) = False := eq_false (Nat.not_lt.2 c16)
         (try (have c16s := c16; simp only [ByteArray.size_append, lit_size, List.length_cons, List.length_nil, Nat.zero_add, Nat.reduceAdd] at c16s; have c16s0 := eq_true c16s; have c16s1 := decide_eq_true c16s; have c16s2 := eq_false (Nat.not_lt.2 c16s); clear c16s))
         replace H := Option.bind_eq_some_iff.mp H
         obtain ⟨⟨t350, t351⟩, A170, H⟩ := H
         replace H : (if ((t350 == (wrap64 (1 + (Int.tmod (wrap64 (a0)) 8)))) != (decide ((wrap64 (1 + (Int.tmod (wrap64 (a0)) 8))) ≤ 6))) = true then (emendationlaw11_KindHeads.j2 k2 a1 a2 a3 t350 t351 true) else (if t350 = 0 then (emendationlaw11_KindHeads.j2 k2 a1 a2 a3 t350 t351 false) else (emendationlaw11_KindHeads.j2 k2 a1 a2 a3 t350 t351 (t350 != (wrap64 (1 + (Int.tmod (wrap64 (a0)) 8))))))) = some r := H
         have A17 := Aside0.mk A170
         clear A170
         have HC18 := Aside0.mk H
         clear H
         go_upto_region 10 with (first | ((with_reducible refine gate_callee (f := 10) rfl ?_); refine goesL_ (some 44) rfl rfl Tryd.func10 (by kernel_rfl) rfl #[.string ((x10_2 ++ (⟨#[32]⟩ : ByteArray)) ++ a1)] rfl (by (try simp only [List.map_toArray, List.map_cons, List.map_nil]); first | done | rfl | (simp only [List.length_drop, List.length_take]; rfl)) ?_; (with_reducible refine (kind_Head.calls k2 ((x10_2 ++ (⟨#[32]⟩ : ByteArray)) ++ a1) t350 t351 _ ?side1 A17.out).mono ?_); (case side1 => first | exact HT.out | exact Tabs.at HT.out (by repeat (first | (with_reducible first | exact HB.out | apply below_alloc | apply pw_below_drewN | apply below_drew1) | exact HB.out))); rintro e w19 ⟨rfl, hb⟩; refine ⟨_, rfl, ?_⟩; have n0_ := Aside0.mk (below_step (by repeat (first | (with_reducible first | exact HB.out | apply below_alloc | apply pw_below_drewN | apply below_drew1) | exact HB.out)) hb); clear HB; have HB := n0_; clear n0_; (try clear hb); (try clear hb2); (try clear hk); (try clear hi)))
         (try simp only [Act.put, List.setIfInBounds_toArray, List.set_cons_zero, List.set_cons_succ])
         go_cut [61] (fun v61 wc => ∃ (kq : Nat) (x61_17 : Bool), v61 = .bool x61_17 ∧ Aside0 (emendationlaw11_KindHeads.j2 kq a1 a2 a3 t350 t351 x61_17 = some r) ∧ Aside0 (kq ≤ k2) ∧ Aside0 (Below w.heap.size w wc))
         case first =>
          have H := HC18.out
          clear HC18
          by_cases c20 : ((t350 == (wrap64 (1 + (Int.tmod (wrap64 (a0)) 8)))) != (decide ((wrap64 (1 + (Int.tmod (wrap64 (a0)) 8))) ≤ 6))) = true
          ·
           rw [if_pos c20] at H
           have c20b0 : ((t350 == (wrap64 (1 + (Int.tmod (wrap64 (a0)) 8)))) != (decide ((wrap64 (1 + (Int.tmod (wrap64 (a0)) 8))) ≤ 6))) = true := c20
           (try (have c20b1 : decide ((t350 == (wrap64 (1 + (Int.tmod (wrap64 (a0)) 8)))) = (decide ((wrap64 (1 + (Int.tmod (wrap64 (a0)) 8))) ≤ 6))) = false := by simpa using c20))
           (try (have c20b2 : ((t350 == (wrap64 (1 + (Int.tmod (wrap64 (a0)) 8)))) == (decide ((wrap64 (1 + (Int.tmod (wrap64 (a0)) 8))) ≤ 6))) = false := by simpa using c20))
           (try (have c20b3 : ¬ ((t350 == (wrap64 (1 + (Int.tmod (wrap64 (a0)) 8)))) = (decide ((wrap64 (1 + (Int.tmod (wrap64 (a0)) 8))) ≤ 6))) := by simpa using c20))
           clear c20
           (first | rw [c20b0] | (simp only [i64_w, i32_w]; rw [c20b0]) | skip)
           have H' := Aside0.mk H
           clear H
           go_wp2
           go_meet
           case rel => exact ⟨_, (true), (by first | rfl | (simp; done) | (simp [*]; done) | (simp [bne, beq_nil_E]; done)), H', ⟨by have := HJ4.out; have := HK2.out; first | omega | exact Nat.le_refl _⟩, ⟨by repeat (first | (with_reducible first | exact HB.out | apply below_alloc | apply pw_below_drewN | apply below_drew1) | exact HB.out)⟩⟩
          ·
           rw [if_neg c20] at H
           have c20b0 : ((t350 == (wrap64 (1 + (Int.tmod (wrap64 (a0)) 8)))) != (decide ((wrap64 (1 + (Int.tmod (wrap64 (a0)) 8))) ≤ 6))) = false := by simpa using c20
           (try (have c20b1 : decide ((t350 == (wrap64 (1 + (Int.tmod (wrap64 (a0)) 8)))) = (decide ((wrap64 (1 + (Int.tmod (wrap64 (a0)) 8))) ≤ 6))) = true := by simpa using c20))
           (try (have c20b2 : ((t350 == (wrap64 (1 + (Int.tmod (wrap64 (a0)) 8)))) == (decide ((wrap64 (1 + (Int.tmod (wrap64 (a0)) 8))) ≤ 6))) = true := by simpa using c20))
           clear c20
           (first | rw [c20b0] | (simp only [i64_w, i32_w]; rw [c20b0]) | skip)
           by_cases c21 : t350 = 0
           ·
            rw [if_pos c21] at H
            have c21b0 : (t350 == 0) = true := beq_iff_eq.mpr c21
            have c21b1 : (t350 != 0) = false := bne_eq_false_iff_eq.mpr c21
            clear c21
            have H' := Aside0.mk H
            clear H
            go_wp2
            go_meet
            case rel => exact ⟨_, (false), (by first | rfl | (simp; done) | (simp [*]; done) | (simp [bne, beq_nil_E]; done)), H', ⟨by have := HJ4.out; have := HK2.out; first | omega | exact Nat.le_refl _⟩, ⟨by repeat (first | (with_reducible first | exact HB.out | apply below_alloc | apply pw_below_drewN | apply below_drew1) | exact HB.out)⟩⟩
           ·
            rw [if_neg c21] at H
            have c21b0 : (t350 == 0) = false := beq_eq_false_iff_ne.mpr c21
            have c21b1 : (t350 != 0) = true := bne_iff_ne.mpr c21
            have H' := Aside0.mk H
            clear H
            go_wp2
            go_meet
            case rel => exact ⟨_, ((t350 != (wrap64 (1 + (Int.tmod (wrap64 (a0)) 8))))), (by first | rfl | (simp; done) | (simp [*]; done) | (simp [bne, beq_nil_E]; done)), H', ⟨by have := HJ4.out; have := HK2.out; first | omega | exact Nat.le_refl _⟩, ⟨by repeat (first | (with_reducible first | exact HB.out | apply below_alloc | apply pw_below_drewN | apply below_drew1) | exact HB.out)⟩⟩
         case rest =>
          clear HC18
          try clear c1
          try clear c2
          try clear p2
          try clear c4
          try clear p6
          try clear c7
          try clear c8
          try clear c10
          try clear c13
          try clear c13b0
          try clear c14
          try clear c14b0
          try clear c14b1
          try clear c14b2
          try clear c15
          try clear c15b0
          try clear c15b1
          try clear c15b2
          try clear c16
          try clear c16b0
          try clear c16b1
          try clear c16b2
          try clear c20
          try clear c20b0
          try clear c20b1
          try clear c20b2
          try clear c21
          try clear c21b0
          try clear c21b1
          try clear p2
          try clear p6
          obtain ⟨kq, x61_17, rfl, HA, HJ17, HB⟩ := hcut
          cases kq with
          | zero => exact absurd HA.out (by simp [emendationlaw11_KindHeads.j2])
          | succ kj17 =>
           have H := HA.out
           clear HA
           simp only [emendationlaw11_KindHeads.j2] at H
           by_cases c22 : x61_17 = true
           ·
            subst c22
            have H1 : (some false) = some r := by rw [if_pos rfl] at H; exact H
            clear H
            have H := H1
            clear H1
            obtain rfl := Option.some.inj H
            go_wp2
            go_ret
            exact ⟨by first | rfl | (simp [errW_none, errW_some] <;> rfl) | (simp [*, errW_none, errW_some] <;> rfl), by repeat (first | (with_reducible first | exact HB.out | apply below_alloc | apply pw_below_drewN | apply below_drew1) | exact HB.out)⟩
           ·
            replace c22 := Bool.eq_false_iff.mpr c22
            subst c22
            have H1 : (emendationlaw11_KindHeads.l1 kj17 a1 a2 a3 t350 t351) = some r := by rw [if_neg (show ¬ (false = true) by decide)] at H; exact H
            clear H
            have H := H1
            clear H1
            have HC23 := Aside0.mk H
            clear H
            go_upto_block 2 with (fail)
            go_cut [1] (fun v1 wc => ∃ (kq : Nat) (x1_22 : ByteArray), v1 = .string x1_22 ∧ Aside0 (emendationlaw11_KindHeads.j4 kq x1_22 a2 a3 t350 t351 = some r) ∧ Aside0 (kq ≤ kj17) ∧ Aside0 (Below w.heap.size w wc))
            case first =>
             have H := HC23.out
             clear HC23
             have H' := Aside0.mk H
             clear H
             go_wp2
             go_loopg [1] kj17 (fun kq v1 w' => ∃ (x1_4 : ByteArray), v1 = .string x1_4 ∧ Aside0 (emendationlaw11_KindHeads.l1 kq x1_4 a2 a3 t350 t351 = some r) ∧ Aside0 (kq ≤ kj17) ∧ Aside0 (Below w.heap.size w w'))
             case atStart => exact ⟨(a1), (by first | rfl | (simp; done) | (simp [*]; done) | (simp [bne, beq_nil_E]; done)), H', ⟨Nat.le_refl _⟩, ⟨by repeat (first | (with_reducible first | exact HB.out | apply below_alloc | apply pw_below_drewN | apply below_drew1) | exact HB.out)⟩⟩
             case round =>
              clear H'
              try clear c1
              try clear c2
              try clear p2
              try clear c4
              try clear p6
              try clear c7
              try clear c8
              try clear c10
              try clear c13
              try clear c13b0
              try clear c14
              try clear c14b0
              try clear c14b1
              try clear c14b2
              try clear c15
              try clear c15b0
              try clear c15b1
              try clear c15b2
              try clear c16
              try clear c16b0
              try clear c16b1
              try clear c16b2
              try clear c20
              try clear c20b0
              try clear c20b1
              try clear c20b2
              try clear c21
              try clear c21b0
              try clear c21b1
              try clear c22
              try clear p2
              try clear p6
              obtain ⟨x1_4, rfl, HA, HK4, HB⟩ := hrel
              cases gk with
              | zero => exact absurd HA.out (by simp [emendationlaw11_KindHeads.l1])
              | succ k4 =>
               have H := HA.out
               clear HA
               simp only [emendationlaw11_KindHeads.l1] at H
               by_cases c24 : (x1_4.size : Int) > 0
               ·
                rw [if_pos c24] at H
                have c24b0 : decide (0 < (x1_4.size : Int)) = true := decide_eq_true c24
                have c24b1 : decide (0 < x1_4.size) = true := decide_eq_true (by omega)
                clear c24
                (first | rw [c24b0] | (simp only [i64_w, i32_w]; rw [c24b0]) | skip)
                by_cases c25 : 0 < (x1_4.size : Int)
                ·
                 rw [if_pos c25] at H
                 have c25b0 : decide (0 < (x1_4.size : Int)) = true := decide_eq_true c25
                 have c25b1 : decide (0 < x1_4.size) = true := decide_eq_true (by omega)
                 clear c25
                 by_cases c27 : (bt x1_4 0) = 32
                 ·
                  rw [if_pos c27] at H
                  have c27b0 : ((bt x1_4 0) == 32) = true := beq_iff_eq.mpr c27
                  have c27b1 : ((bt x1_4 0) != 32) = false := bne_eq_false_iff_eq.mpr c27
                  clear c27
                  by_cases c28 : 1 ≤ (x1_4.size : Int)
                  ·
                   rw [if_pos c28] at H
                   have c28b0 := eq_true c28
                   have c28b1 : decide (1 ≤ (x1_4.size : Int)) = true := decide_eq_true c28
                   clear c28
                   have H' := Aside0.mk H
                   clear H
                   have p26 : 0 ≤ (0 : Int) := (by omega)
                   have q26 : 0 < x1_4.size := (by have : (0 : Int) < (x1_4.size : Int) := of_decide_eq_true (by first | (with_reducible assumption) | assumption); omega)
                   have hx26 : ∀ h : 0 < x1_4.size, ((x1_4[0]'h).toNat : Int) = bt x1_4 0 := bt_at x1_4 0
                   clear p26
                   have qi26 : (0 < (x1_4.size : Int)) = True := eq_true (of_decide_eq_true (by first | (with_reducible assumption) | assumption))
                   replace q26 := eq_true q26
                   go_wp2
                   go_roundg k4
                   case measure => have := HJ4.out; have := HK2.out; have := HJ17.out; have := HK4.out; omega
                   case rel => exact ⟨(x1_4.extract 1 x1_4.size), (by first | rfl | (simp; done) | (simp [*]; done) | (simp [bne, beq_nil_E]; done)), H', ⟨by have := HJ4.out; have := HK2.out; have := HJ17.out; have := HK4.out; omega⟩, ⟨by repeat (first | (with_reducible first | exact HB.out | apply below_alloc | apply pw_below_drewN | apply below_drew1) | exact HB.out)⟩⟩
                  ·
                   rw [if_neg c28] at H
                   exact absurd H (by simp)
                 ·
                  rw [if_neg c27] at H
                  have c27b0 : ((bt x1_4 0) == 32) = false := beq_eq_false_iff_ne.mpr c27
                  have c27b1 : ((bt x1_4 0) != 32) = true := bne_iff_ne.mpr c27
                  by_cases c30 : (bt x1_4 0) = 9
                  ·
                   rw [if_pos c30] at H
                   have c30b0 : ((bt x1_4 0) == 9) = true := beq_iff_eq.mpr c30
                   have c30b1 : ((bt x1_4 0) != 9) = false := bne_eq_false_iff_eq.mpr c30
                   clear c30
                   by_cases c31 : 1 ≤ (x1_4.size : Int)
                   ·
                    rw [if_pos c31] at H
                    have c31b0 := eq_true c31
                    have c31b1 : decide (1 ≤ (x1_4.size : Int)) = true := decide_eq_true c31
                    clear c31
                    have H' := Aside0.mk H
                    clear H
                    have p26 : 0 ≤ (0 : Int) := (by omega)
                    have q26 : 0 < x1_4.size := (by have : (0 : Int) < (x1_4.size : Int) := of_decide_eq_true (by first | (with_reducible assumption) | assumption); omega)
                    have hx26 : ∀ h : 0 < x1_4.size, ((x1_4[0]'h).toNat : Int) = bt x1_4 0 := bt_at x1_4 0
                    clear p26
                    have qi26 : (0 < (x1_4.size : Int)) = True := eq_true (of_decide_eq_true (by first | (with_reducible assumption) | assumption))
                    replace q26 := eq_true q26
                    have p29 : 0 ≤ (0 : Int) := (by omega)
                    have q29 : 0 < x1_4.size := (by have : (0 : Int) < (x1_4.size : Int) := of_decide_eq_true (by first | (with_reducible assumption) | assumption); omega)
                    have hx29 : ∀ h : 0 < x1_4.size, ((x1_4[0]'h).toNat : Int) = bt x1_4 0 := bt_at x1_4 0
                    clear p29
                    have qi29 : (0 < (x1_4.size : Int)) = True := eq_true (of_decide_eq_true (by first | (with_reducible assumption) | assumption))
                    replace q29 := eq_true q29
                    go_wp2
                    go_roundg k4
                    case measure => have := HJ4.out; have := HK2.out; have := HJ17.out; have := HK4.out; omega
                    case rel => exact ⟨(x1_4.extract 1 x1_4.size), (by first | rfl | (simp; done) | (simp [*]; done) | (simp [bne, beq_nil_E]; done)), H', ⟨by have := HJ4.out; have := HK2.out; have := HJ17.out; have := HK4.out; omega⟩, ⟨by repeat (first | (with_reducible first | exact HB.out | apply below_alloc | apply pw_below_drewN | apply below_drew1) | exact HB.out)⟩⟩
                   ·
                    rw [if_neg c31] at H
                    exact absurd H (by simp)
                  ·
                   rw [if_neg c30] at H
                   have c30b0 : ((bt x1_4 0) == 9) = false := beq_eq_false_iff_ne.mpr c30
                   have c30b1 : ((bt x1_4 0) != 9) = true := bne_iff_ne.mpr c30
                   have H' := Aside0.mk H
                   clear H
                   have p26 : 0 ≤ (0 : Int) := (by omega)
                   have q26 : 0 < x1_4.size := (by have : (0 : Int) < (x1_4.size : Int) := of_decide_eq_true (by first | (with_reducible assumption) | assumption); omega)
                   have hx26 : ∀ h : 0 < x1_4.size, ((x1_4[0]'h).toNat : Int) = bt x1_4 0 := bt_at x1_4 0
                   clear p26
                   have qi26 : (0 < (x1_4.size : Int)) = True := eq_true (of_decide_eq_true (by first | (with_reducible assumption) | assumption))
                   replace q26 := eq_true q26
                   have p29 : 0 ≤ (0 : Int) := (by omega)
                   have q29 : 0 < x1_4.size := (by have : (0 : Int) < (x1_4.size : Int) := of_decide_eq_true (by first | (with_reducible assumption) | assumption); omega)
                   have hx29 : ∀ h : 0 < x1_4.size, ((x1_4[0]'h).toNat : Int) = bt x1_4 0 := bt_at x1_4 0
                   clear p29
                   have qi29 : (0 < (x1_4.size : Int)) = True := eq_true (of_decide_eq_true (by first | (with_reducible assumption) | assumption))
                   replace q29 := eq_true q29
                   go_wp2
                   go_meet
                   case rel => exact ⟨_, (x1_4), (by first | rfl | (simp; done) | (simp [*]; done) | (simp [bne, beq_nil_E]; done)), H', ⟨by have := HJ4.out; have := HK2.out; have := HJ17.out; have := HK4.out; first | omega | exact Nat.le_refl _⟩, ⟨by repeat (first | (with_reducible first | exact HB.out | apply below_alloc | apply pw_below_drewN | apply below_drew1) | exact HB.out)⟩⟩
                ·
                 rw [if_neg c25] at H
                 exact absurd H (by simp)
               ·
                rw [if_neg c24] at H
                have c24b0 : decide (0 < (x1_4.size : Int)) = false := decide_eq_false c24
                have c24b1 : decide (0 < x1_4.size) = false := decide_eq_false (by omega)
                clear c24
                (first | rw [c24b0] | (simp only [i64_w, i32_w]; rw [c24b0]) | skip)
                have H' := Aside0.mk H
                clear H
                go_wp2
                go_meet
                case rel => exact ⟨_, (x1_4), (by first | rfl | (simp; done) | (simp [*]; done) | (simp [bne, beq_nil_E]; done)), H', ⟨by have := HJ4.out; have := HK2.out; have := HJ17.out; have := HK4.out; first | omega | exact Nat.le_refl _⟩, ⟨by repeat (first | (with_reducible first | exact HB.out | apply below_alloc | apply pw_below_drewN | apply below_drew1) | exact HB.out)⟩⟩
            case rest =>
             clear HC23
             try clear c1
             try clear c2
             try clear p2
             try clear q2
             try clear hx2
             try clear qi2
             try clear c3
             try clear c4
             try clear p6
             try clear c7
             try clear c8
             try clear c10
             try clear c13
             try clear c13b0
             try clear c14
             try clear c14b0
             try clear c14b1
             try clear c14b2
             try clear c15
             try clear c15b0
             try clear c15b1
             try clear c15b2
             try clear c16
             try clear c16b0
             try clear c16b1
             try clear c16b2
             try clear c20
             try clear c20b0
             try clear c20b1
             try clear c20b2
             try clear c21
             try clear c21b0
             try clear c21b1
             try clear c22
             try clear c24
             try clear c24b0
             try clear c24b1
             try clear c25
             try clear c25b0
             try clear c25b1
             try clear p26
             try clear q26
             try clear hx26
             try clear qi26
             try clear c27
             try clear c27b0
             try clear c27b1
             try clear c28
             try clear c28b0
             try clear c28b1
             try clear p29
             try clear q29
             try clear hx29
             try clear qi29
             try clear c30
             try clear c30b0
             try clear c30b1
             try clear c31
             try clear c31b0
             try clear c31b1
             try clear p2
             try clear p26
             try clear p29
             try clear p6
             try clear q26
             try clear q29
             obtain ⟨kq, x1_22, rfl, HA, HJ22, HB⟩ := hcut
             cases kq with
             | zero => exact absurd HA.out (by simp [emendationlaw11_KindHeads.j4])
             | succ kj22 =>
              have H := HA.out
              clear HA
              simp only [emendationlaw11_KindHeads.j4] at H
              have HC32 := Aside0.mk H
              clear H
              go_upto_block 4 with (fail)
              go_cut [1] (fun v1 wc => ∃ (kq : Nat) (x1_31 : ByteArray), v1 = .string x1_31 ∧ Aside0 (emendationlaw11_KindHeads.j6 kq x1_31 a2 a3 t350 t351 = some r) ∧ Aside0 (kq ≤ kj22) ∧ Aside0 (Below w.heap.size w wc))
              case first =>
               have H := HC32.out
               clear HC32
               have H' := Aside0.mk H
               clear H
               go_wp2
               go_loopg [1] kj22 (fun kq v1 w' => ∃ (x1_5 : ByteArray), v1 = .string x1_5 ∧ Aside0 (emendationlaw11_KindHeads.l2 kq x1_5 a2 a3 t350 t351 = some r) ∧ Aside0 (kq ≤ kj22) ∧ Aside0 (Below w.heap.size w w'))
               case atStart => exact ⟨(x1_22), (by first | rfl | (simp; done) | (simp [*]; done) | (simp [bne, beq_nil_E]; done)), H', ⟨Nat.le_refl _⟩, ⟨by repeat (first | (with_reducible first | exact HB.out | apply below_alloc | apply pw_below_drewN | apply below_drew1) | exact HB.out)⟩⟩
               case round =>
                clear H'
                try clear c1
                try clear c2
                try clear p2
                try clear q2
                try clear hx2
                try clear qi2
                try clear c3
                try clear c4
                try clear p6
                try clear c7
                try clear c8
                try clear c10
                try clear c13
                try clear c13b0
                try clear c14
                try clear c14b0
                try clear c14b1
                try clear c14b2
                try clear c15
                try clear c15b0
                try clear c15b1
                try clear c15b2
                try clear c16
                try clear c16b0
                try clear c16b1
                try clear c16b2
                try clear c20
                try clear c20b0
                try clear c20b1
                try clear c20b2
                try clear c21
                try clear c21b0
                try clear c21b1
                try clear c22
                try clear c24
                try clear c24b0
                try clear c24b1
                try clear c25
                try clear c25b0
                try clear c25b1
                try clear p26
                try clear q26
                try clear hx26
                try clear qi26
                try clear c27
                try clear c27b0
                try clear c27b1
                try clear c28
                try clear c28b0
                try clear c28b1
                try clear p29
                try clear q29
                try clear hx29
                try clear qi29
                try clear c30
                try clear c30b0
                try clear c30b1
                try clear c31
                try clear c31b0
                try clear c31b1
                try clear p2
                try clear p26
                try clear p29
                try clear p6
                try clear q2
                try clear q26
                try clear q29
                obtain ⟨x1_5, rfl, HA, HK5, HB⟩ := hrel
                cases gk with
                | zero => exact absurd HA.out (by simp [emendationlaw11_KindHeads.l2])
                | succ k5 =>
                 have H := HA.out
                 clear HA
                 simp only [emendationlaw11_KindHeads.l2] at H
                 by_cases c33 : (x1_5.size : Int) > 0
                 ·
                  rw [if_pos c33] at H
                  have c33b0 : decide (0 < (x1_5.size : Int)) = true := decide_eq_true c33
                  have c33b1 : decide (0 < x1_5.size) = true := decide_eq_true (by omega)
                  clear c33
                  (first | rw [c33b0] | (simp only [i64_w, i32_w]; rw [c33b0]) | skip)
                  obtain ⟨ji34, hji34⟩ : ∃ j_ : Int, (wrap64 ((x1_5.size : Int) - 1)) = j_ := ⟨_, rfl⟩
                  replace H : (if 0 ≤ (ji34) then (if (ji34) < (x1_5.size : Int) then (if (bt x1_5 (ji34)) = 32 then (if (ji34) ≤ (x1_5.size : Int) then (emendationlaw11_KindHeads.l2 k5 (x1_5.extract 0 ((ji34) : Int).toNat) a2 a3 t350 t351) else (none)) else (if (bt x1_5 (ji34)) = 9 then (if (ji34) ≤ (x1_5.size : Int) then (emendationlaw11_KindHeads.l2 k5 (x1_5.extract 0 ((ji34) : Int).toNat) a2 a3 t350 t351) else (none)) else (emendationlaw11_KindHeads.j6 k5 x1_5 a2 a3 t350 t351))) else (none)) else (none)) = some r := by first | (rw [hji34] at H; exact H) | (simp only [hji34] at H ⊢; exact H)
                  have hji34w : (IntKind.i64.wrap ((x1_5.size : Int) - 1)) = ji34 := (i64_w _).trans hji34
                  by_cases c35 : 0 ≤ (ji34)
                  ·
                   rw [if_pos c35] at H
                   have c35b0 : decide (0 ≤ (ji34)) = true := decide_eq_true c35
                   clear c35
                   by_cases c36 : (ji34) < (x1_5.size : Int)
                   ·
                    rw [if_pos c36] at H
                    have c36b0 : decide ((ji34) < (x1_5.size : Int)) = true := decide_eq_true c36
                    clear c36
                    by_cases c38 : (bt x1_5 (ji34)) = 32
                    ·
                     rw [if_pos c38] at H
                     have c38b0 : ((bt x1_5 (ji34)) == 32) = true := beq_iff_eq.mpr c38
                     have c38b1 : ((bt x1_5 (ji34)) != 32) = false := bne_eq_false_iff_eq.mpr c38
                     clear c38
                     have c39b0 := eq_true (of_decide_eq_true (by first | (with_reducible assumption) | assumption) : 0 ≤ (ji34))
                     by_cases c40 : (ji34) ≤ (x1_5.size : Int)
                     ·
                      rw [if_pos c40] at H
                      have c40b0 := eq_true c40
                      have c40b1 : decide ((ji34) ≤ (x1_5.size : Int)) = true := decide_eq_true c40
                      clear c40
                      have H' := Aside0.mk H
                      clear H
                      have p37 : 0 ≤ ((ji34) : Int) := of_decide_eq_true (by first | (with_reducible assumption) | assumption)
                      have q37 : (ji34) < (x1_5.size : Int) := of_decide_eq_true (by first | (with_reducible assumption) | assumption)
                      have hx37 := bt_at x1_5 (ji34)
                      replace p37 := eq_true p37
                      replace q37 := eq_true q37
                      go_wp2
                      go_roundg k5
                      case measure => have := HJ4.out; have := HK2.out; have := HJ17.out; have := HJ22.out; have := HK5.out; omega
                      case rel => exact ⟨(x1_5.extract 0 ((ji34) : Int).toNat), (by first | rfl | (simp; done) | (simp only [← hji34] <;> (first | rfl | simp)) | (simp [*]; done)), H', ⟨by have := HJ4.out; have := HK2.out; have := HJ17.out; have := HJ22.out; have := HK5.out; omega⟩, ⟨by repeat (first | (with_reducible first | exact HB.out | apply below_alloc | apply pw_below_drewN | apply below_drew1) | exact HB.out)⟩⟩
                     ·
                      rw [if_neg c40] at H
                      exact absurd H (by simp)
                    ·
                     rw [if_neg c38] at H
                     have c38b0 : ((bt x1_5 (ji34)) == 32) = false := beq_eq_false_iff_ne.mpr c38
                     have c38b1 : ((bt x1_5 (ji34)) != 32) = true := bne_iff_ne.mpr c38
                     by_cases c42 : (bt x1_5 (ji34)) = 9
                     ·
                      rw [if_pos c42] at H
                      have c42b0 : ((bt x1_5 (ji34)) == 9) = true := beq_iff_eq.mpr c42
                      have c42b1 : ((bt x1_5 (ji34)) != 9) = false := bne_eq_false_iff_eq.mpr c42
                      clear c42
                      have c43b0 := eq_true (of_decide_eq_true (by first | (with_reducible assumption) | assumption) : 0 ≤ (ji34))
                      by_cases c44 : (ji34) ≤ (x1_5.size : Int)
                      ·
                       rw [if_pos c44] at H
                       have c44b0 := eq_true c44
                       have c44b1 : decide ((ji34) ≤ (x1_5.size : Int)) = true := decide_eq_true c44
                       clear c44
                       have H' := Aside0.mk H
                       clear H
                       have p37 : 0 ≤ ((ji34) : Int) := of_decide_eq_true (by first | (with_reducible assumption) | assumption)
                       have q37 : (ji34) < (x1_5.size : Int) := of_decide_eq_true (by first | (with_reducible assumption) | assumption)
                       have hx37 := bt_at x1_5 (ji34)
                       replace p37 := eq_true p37
                       replace q37 := eq_true q37
                       have p41 : 0 ≤ ((ji34) : Int) := of_decide_eq_true (by first | (with_reducible assumption) | assumption)
                       have q41 : (ji34) < (x1_5.size : Int) := of_decide_eq_true (by first | (with_reducible assumption) | assumption)
                       have hx41 := bt_at x1_5 (ji34)
                       replace p41 := eq_true p41
                       replace q41 := eq_true q41
                       go_wp2
                       go_roundg k5
                       case measure => have := HJ4.out; have := HK2.out; have := HJ17.out; have := HJ22.out; have := HK5.out; omega
                       case rel => exact ⟨(x1_5.extract 0 ((ji34) : Int).toNat), (by first | rfl | (simp; done) | (simp only [← hji34] <;> (first | rfl | simp)) | (simp [*]; done)), H', ⟨by have := HJ4.out; have := HK2.out; have := HJ17.out; have := HJ22.out; have := HK5.out; omega⟩, ⟨by repeat (first | (with_reducible first | exact HB.out | apply below_alloc | apply pw_below_drewN | apply below_drew1) | exact HB.out)⟩⟩
                      ·
                       rw [if_neg c44] at H
                       exact absurd H (by simp)
                     ·
                      rw [if_neg c42] at H
                      have c42b0 : ((bt x1_5 (ji34)) == 9) = false := beq_eq_false_iff_ne.mpr c42
                      have c42b1 : ((bt x1_5 (ji34)) != 9) = true := bne_iff_ne.mpr c42
                      have H' := Aside0.mk H
                      clear H
                      have p37 : 0 ≤ ((ji34) : Int) := of_decide_eq_true (by first | (with_reducible assumption) | assumption)
                      have q37 : (ji34) < (x1_5.size : Int) := of_decide_eq_true (by first | (with_reducible assumption) | assumption)
                      have hx37 := bt_at x1_5 (ji34)
                      replace p37 := eq_true p37
                      replace q37 := eq_true q37
                      have p41 : 0 ≤ ((ji34) : Int) := of_decide_eq_true (by first | (with_reducible assumption) | assumption)
                      have q41 : (ji34) < (x1_5.size : Int) := of_decide_eq_true (by first | (with_reducible assumption) | assumption)
                      have hx41 := bt_at x1_5 (ji34)
                      replace p41 := eq_true p41
                      replace q41 := eq_true q41
                      go_wp2
                      go_meet
                      case rel => exact ⟨_, (x1_5), (by first | rfl | (simp; done) | (simp [*]; done) | (simp [bne, beq_nil_E]; done)), H', ⟨by have := HJ4.out; have := HK2.out; have := HJ17.out; have := HJ22.out; have := HK5.out; first | omega | exact Nat.le_refl _⟩, ⟨by repeat (first | (with_reducible first | exact HB.out | apply below_alloc | apply pw_below_drewN | apply below_drew1) | exact HB.out)⟩⟩
                   ·
                    rw [if_neg c36] at H
                    exact absurd H (by simp)
                  ·
                   rw [if_neg c35] at H
                   exact absurd H (by simp)
                 ·
                  rw [if_neg c33] at H
                  have c33b0 : decide (0 < (x1_5.size : Int)) = false := decide_eq_false c33
                  have c33b1 : decide (0 < x1_5.size) = false := decide_eq_false (by omega)
                  clear c33
                  (first | rw [c33b0] | (simp only [i64_w, i32_w]; rw [c33b0]) | skip)
                  have H' := Aside0.mk H
                  clear H
                  go_wp2
                  go_meet
                  case rel => exact ⟨_, (x1_5), (by first | rfl | (simp; done) | (simp [*]; done) | (simp [bne, beq_nil_E]; done)), H', ⟨by have := HJ4.out; have := HK2.out; have := HJ17.out; have := HJ22.out; have := HK5.out; first | omega | exact Nat.le_refl _⟩, ⟨by repeat (first | (with_reducible first | exact HB.out | apply below_alloc | apply pw_below_drewN | apply below_drew1) | exact HB.out)⟩⟩
              case rest =>
               clear HC32
               try clear c1
               try clear c2
               try clear p2
               try clear q2
               try clear hx2
               try clear qi2
               try clear c3
               try clear p3
               try clear q3
               try clear hx3
               try clear c4
               try clear p4
               try clear q4
               try clear hx4
               try clear p6
               try clear c7
               try clear c8
               try clear c10
               try clear c13
               try clear c13b0
               try clear c14
               try clear c14b0
               try clear c14b1
               try clear c14b2
               try clear c15
               try clear c15b0
               try clear c15b1
               try clear c15b2
               try clear c16
               try clear c16b0
               try clear c16b1
               try clear c16b2
               try clear c20
               try clear c20b0
               try clear c20b1
               try clear c20b2
               try clear c21
               try clear c21b0
               try clear c21b1
               try clear c22
               try clear c24
               try clear c24b0
               try clear c24b1
               try clear c25
               try clear c25b0
               try clear c25b1
               try clear p26
               try clear q26
               try clear hx26
               try clear qi26
               try clear c27
               try clear c27b0
               try clear c27b1
               try clear c28
               try clear c28b0
               try clear c28b1
               try clear p29
               try clear q29
               try clear hx29
               try clear qi29
               try clear c30
               try clear c30b0
               try clear c30b1
               try clear c31
               try clear c31b0
               try clear c31b1
               try clear c33
               try clear c33b0
               try clear c33b1
               try clear c35
               try clear c35b0
               try clear c36
               try clear c36b0
               try clear p37
               try clear q37
               try clear hx37
               try clear c38
               try clear c38b0
               try clear c38b1
               try clear c39
               try clear c39b0
               try clear c40
               try clear c40b0
               try clear c40b1
               try clear p41
               try clear q41
               try clear hx41
               try clear c42
               try clear c42b0
               try clear c42b1
               try clear c43
               try clear c43b0
               try clear c44
               try clear c44b0
               try clear c44b1
               try clear p2
               try clear p26
               try clear p29
               try clear p37
               try clear p41
               try clear p6
               try clear q2
               try clear q26
               try clear q29
               try clear q37
               try clear q41
               obtain ⟨kq, x1_31, rfl, HA, HJ31, HB⟩ := hcut
               cases kq with
               | zero => exact absurd HA.out (by simp [emendationlaw11_KindHeads.j6])
               | succ kj31 =>
                have H := HA.out
                clear HA
                simp only [emendationlaw11_KindHeads.j6] at H
                have HC45 := Aside0.mk H
                clear H
                go_upto_region 16 with (fail)
                go_cut [107] (fun v107 wc => ∃ (kq : Nat) (x107_44 : Bool), v107 = .bool x107_44 ∧ Aside0 (emendationlaw11_KindHeads.j7 kq a2 a3 x107_44 = some r) ∧ Aside0 (kq ≤ kj31) ∧ Aside0 (Below w.heap.size w wc))
                case first =>
                 have H := HC45.out
                 clear HC45
                 by_cases c46 : t350 = 0
                 ·
                  rw [if_pos c46] at H
                  have c46b0 : (t350 == 0) = true := beq_iff_eq.mpr c46
                  have c46b1 : (t350 != 0) = false := bne_eq_false_iff_eq.mpr c46
                  clear c46
                  (first | rw [c46b0] | (simp only [i64_w, i32_w]; rw [c46b0]) | skip)
                  have H' := Aside0.mk H
                  clear H
                  go_wp2
                  go_meet
                  case rel => exact ⟨_, (false), (by first | rfl | (simp; done) | (simp [*]; done) | (simp [bne, beq_nil_E]; done)), H', ⟨by have := HJ4.out; have := HK2.out; have := HJ17.out; have := HJ22.out; have := HJ31.out; first | omega | exact Nat.le_refl _⟩, ⟨by repeat (first | (with_reducible first | exact HB.out | apply below_alloc | apply pw_below_drewN | apply below_drew1) | exact HB.out)⟩⟩
                 ·
                  rw [if_neg c46] at H
                  have c46b0 : (t350 == 0) = false := beq_eq_false_iff_ne.mpr c46
                  have c46b1 : (t350 != 0) = true := bne_iff_ne.mpr c46
                  (first | rw [c46b0] | (simp only [i64_w, i32_w]; rw [c46b0]) | skip)
                  have H' := Aside0.mk H
                  clear H
                  go_wp2
                  go_meet
                  case rel => exact ⟨_, ((t351.toList != x1_31.toList)), (by first | rfl | (simp; done) | (simp [*]; done) | (simp [bne, beq_nil_E]; done)), H', ⟨by have := HJ4.out; have := HK2.out; have := HJ17.out; have := HJ22.out; have := HJ31.out; first | omega | exact Nat.le_refl _⟩, ⟨by repeat (first | (with_reducible first | exact HB.out | apply below_alloc | apply pw_below_drewN | apply below_drew1) | exact HB.out)⟩⟩
                case rest =>
                 clear HC45
                 try clear c1
                 try clear c2
                 try clear p2
                 try clear q2
                 try clear hx2
                 try clear qi2
                 try clear c3
                 try clear p3
                 try clear q3
                 try clear hx3
                 try clear c4
                 try clear p4
                 try clear q4
                 try clear hx4
                 try clear p6
                 try clear c7
                 try clear c8
                 try clear c10
                 try clear c13
                 try clear c13b0
                 try clear c14
                 try clear c14b0
                 try clear c14b1
                 try clear c14b2
                 try clear c15
                 try clear c15b0
                 try clear c15b1
                 try clear c15b2
                 try clear c16
                 try clear c16b0
                 try clear c16b1
                 try clear c16b2
                 try clear c20
                 try clear c20b0
                 try clear c20b1
                 try clear c20b2
                 try clear c21
                 try clear c21b0
                 try clear c21b1
                 try clear c22
                 try clear c24
                 try clear c24b0
                 try clear c24b1
                 try clear c25
                 try clear c25b0
                 try clear c25b1
                 try clear p26
                 try clear q26
                 try clear hx26
                 try clear qi26
                 try clear c27
                 try clear c27b0
                 try clear c27b1
                 try clear c28
                 try clear c28b0
                 try clear c28b1
                 try clear p29
                 try clear q29
                 try clear hx29
                 try clear qi29
                 try clear c30
                 try clear c30b0
                 try clear c30b1
                 try clear c31
                 try clear c31b0
                 try clear c31b1
                 try clear c33
                 try clear c33b0
                 try clear c33b1
                 try clear c35
                 try clear c35b0
                 try clear c36
                 try clear c36b0
                 try clear p37
                 try clear q37
                 try clear hx37
                 try clear c38
                 try clear c38b0
                 try clear c38b1
                 try clear c39
                 try clear c39b0
                 try clear c40
                 try clear c40b0
                 try clear c40b1
                 try clear p41
                 try clear q41
                 try clear hx41
                 try clear c42
                 try clear c42b0
                 try clear c42b1
                 try clear c43
                 try clear c43b0
                 try clear c44
                 try clear c44b0
                 try clear c44b1
                 try clear c46
                 try clear c46b0
                 try clear c46b1
                 try clear p2
                 try clear p26
                 try clear p29
                 try clear p3
                 try clear p37
                 try clear p4
                 try clear p41
                 try clear p6
                 try clear q2
                 try clear q26
                 try clear q29
                 try clear q3
                 try clear q37
                 try clear q4
                 try clear q41
                 obtain ⟨kq, x107_44, rfl, HA, HJ44, HB⟩ := hcut
                 cases kq with
                 | zero => exact absurd HA.out (by simp [emendationlaw11_KindHeads.j7])
                 | succ kj44 =>
                  have H := HA.out
                  clear HA
                  simp only [emendationlaw11_KindHeads.j7] at H
                  by_cases c47 : x107_44 = true
                  ·
                   subst c47
                   have H1 : (some false) = some r := by rw [if_pos rfl] at H; exact H
                   clear H
                   have H := H1
                   clear H1
                   obtain rfl := Option.some.inj H
                   go_wp2
                   go_ret
                   exact ⟨by first | rfl | (simp [errW_none, errW_some] <;> rfl) | (simp [*, errW_none, errW_some] <;> rfl), by repeat (first | (with_reducible first | exact HB.out | apply below_alloc | apply pw_below_drewN | apply below_drew1) | exact HB.out)⟩
                  ·
                   replace c47 := Bool.eq_false_iff.mpr c47
                   subst c47
                   have H1 : (if 1 + a2.size ≤ 9223372036854775807 then (if ((⟨#[91]⟩ : ByteArray) ++ a2).size + 3 ≤ 9223372036854775807 then (if (((⟨#[91]⟩ : ByteArray) ++ a2) ++ (⟨#[93, 58, 32]⟩ : ByteArray)).size + a3.size ≤ 9223372036854775807 then ((kind_Define.f kj44 ((((⟨#[91]⟩ : ByteArray) ++ a2) ++ (⟨#[93, 58, 32]⟩ : ByteArray)) ++ a3)).bind fun bt352 => ((emendationref10_Right.f kj44 (([(⟨8, 0, a2, (([a3] : List ByteArray)), ([] : List (S57)), ([] : List (S32))⟩ : S32)] : List (S32)))).bind fun t371 => (if ((bt352.1 == 8) == t371) = true then (if t371 = true then (if bt352.2.2.1.toList = a2.toList then (if (bt352.2.2.2.1.length : Int) = 1 then (if 0 < (bt352.2.2.2.1.length : Int) then (some ((rdOf ByteArray.empty bt352.2.2.2.1 0).toList == a3.toList)) else (none)) else (some false)) else (some false)) else (some true)) else (some false)))) else (none)) else (none)) else (none)) = some r := by rw [if_neg (show ¬ (false = true) by decide)] at H; exact H
                   clear H
                   have H := H1
                   clear H1
                   by_cases c48 : 1 + a2.size ≤ 9223372036854775807
                   ·
                    rw [if_pos c48] at H
                    have c48b0 := eq_true c48
                    have c48b1 : decide (1 + a2.size ≤ 9223372036854775807) = true := decide_eq_true c48
                    try have c48b2 : (9223372036854775807 < 1 + a2.size) = False := eq_false (Nat.not_lt.2 c48)
                    by_cases c49 : ((⟨#[91]⟩ : ByteArray) ++ a2).size + 3 ≤ 9223372036854775807
                    ·
                     rw [if_pos c49] at H
                     have c49b0 := eq_true c49
                     have c49b1 : decide (((⟨#[91]⟩ : ByteArray) ++ a2).size + 3 ≤ 9223372036854775807) = true := decide_eq_true c49
                     try have c49b2 : (9223372036854775807 < ((⟨#[91]⟩ : ByteArray) ++ a2).size + 3) = False := eq_false (Nat.not_lt.2 c49)
                     (try (have c49s := c49; simp only [ByteArray.size_append, lit_size, List.length_cons, List.length_nil, Nat.zero_add, Nat.reduceAdd] at c49s; have c49s0 := eq_true c49s; have c49s1 := decide_eq_true c49s; have c49s2 := eq_false (Nat.not_lt.2 c49s); clear c49s))
                     by_cases c50 : (((⟨#[91]⟩ : ByteArray) ++ a2) ++ (⟨#[93, 58, 32]⟩ : ByteArray)).size + a3.size ≤ 9223372036854775807
                     ·
                      rw [if_pos c50] at H
                      have c50b0 := eq_true c50
                      have c50b1 : decide ((((⟨#[91]⟩ : ByteArray) ++ a2) ++ (⟨#[93, 58, 32]⟩ : ByteArray)).size + a3.size ≤ 9223372036854775807) = true := decide_eq_true c50
                      try have c50b2 : (9223372036854775807 < (((⟨#[91]⟩ : ByteArray) ++ a2) ++ (⟨#[93, 58, 32]⟩ : ByteArray)).size + a3.size) = False := eq_false (Nat.not_lt.2 c50)
                      (try (have c50s := c50; simp only [ByteArray.size_append, lit_size, List.length_cons, List.length_nil, Nat.zero_add, Nat.reduceAdd] at c50s; have c50s0 := eq_true c50s; have c50s1 := decide_eq_true c50s; have c50s2 := eq_false (Nat.not_lt.2 c50s); clear c50s))
                      replace H := Option.bind_eq_some_iff.mp H
                      obtain ⟨⟨t352, t353, t354, t355, t358, t361⟩, A510, H⟩ := H
                      replace H : ((emendationref10_Right.f kj44 (([(⟨8, 0, a2, (([a3] : List ByteArray)), ([] : List (S57)), ([] : List (S32))⟩ : S32)] : List (S32)))).bind fun t371 => (if ((t352 == 8) == t371) = true then (if t371 = true then (if t354.toList = a2.toList then (if (t355.length : Int) = 1 then (if 0 < (t355.length : Int) then (some ((rdOf ByteArray.empty t355 0).toList == a3.toList)) else (none)) else (some false)) else (some false)) else (some true)) else (some false))) = some r := H
                      have A51 := Aside0.mk A510
                      clear A510
                      obtain ⟨y365, hy365⟩ : ∃ y_ : List ByteArray, y_ = (([a3] : List ByteArray)) := ⟨_, rfl⟩
                      replace H : ((emendationref10_Right.f kj44 (([(⟨8, 0, a2, y365, ([] : List (S57)), ([] : List (S32))⟩ : S32)] : List (S32)))).bind fun t371 => (if ((t352 == 8) == t371) = true then (if t371 = true then (if t354.toList = a2.toList then (if (t355.length : Int) = 1 then (if 0 < (t355.length : Int) then (some ((rdOf ByteArray.empty t355 0).toList == a3.toList)) else (none)) else (some false)) else (some false)) else (some true)) else (some false))) = some r := by first | (rw [hy365]; with_reducible exact H) | (have H2_ := (Option.bind_some _ _).symm.trans H; rw [hy365]; with_reducible exact H2_) | (have H2_ := (Option.bind_some _ _).symm.trans H; with_reducible exact H2_) | with_reducible exact H | (rw [hy365]; exact H) | exact H
                      have Ny365 := Aside0.mk hy365
                      clear hy365
                      obtain ⟨y368, hy368⟩ : ∃ y_ : List (S32), y_ = (([(⟨8, 0, a2, y365, ([] : List (S57)), ([] : List (S32))⟩ : S32)] : List (S32))) := ⟨_, rfl⟩
                      replace H : ((emendationref10_Right.f kj44 y368).bind fun t371 => (if ((t352 == 8) == t371) = true then (if t371 = true then (if t354.toList = a2.toList then (if (t355.length : Int) = 1 then (if 0 < (t355.length : Int) then (some ((rdOf ByteArray.empty t355 0).toList == a3.toList)) else (none)) else (some false)) else (some false)) else (some true)) else (some false))) = some r := by first | (rw [hy368]; with_reducible exact H) | (have H2_ := (Option.bind_some _ _).symm.trans H; rw [hy368]; with_reducible exact H2_) | (have H2_ := (Option.bind_some _ _).symm.trans H; with_reducible exact H2_) | with_reducible exact H | (rw [hy368]; exact H) | exact H
                      have Ny368 := Aside0.mk hy368
                      clear hy368
                      replace H := Option.bind_eq_some_iff.mp H
                      obtain ⟨t371, A520, H⟩ := H
                      replace H : (if ((t352 == 8) == t371) = true then (if t371 = true then (if t354.toList = a2.toList then (if (t355.length : Int) = 1 then (if 0 < (t355.length : Int) then (some ((rdOf ByteArray.empty t355 0).toList == a3.toList)) else (none)) else (some false)) else (some false)) else (some true)) else (some false)) = some r := H
                      have A52 := Aside0.mk A520
                      clear A520
                      by_cases c53 : ((t352 == 8) == t371) = true
                      ·
                       rw [if_pos c53] at H
                       have c53b0 : ((t352 == 8) == t371) = true := c53
                       (try (have c53b1 : decide ((t352 == 8) = t371) = true := by simpa using c53))
                       (try (have c53b2 : ((t352 == 8) == t371) = true := by simpa using c53))
                       clear c53
                       by_cases c54 : t371 = true
                       ·
                        subst c54
                        have H1 : (if t354.toList = a2.toList then (if (t355.length : Int) = 1 then (if 0 < (t355.length : Int) then (some ((rdOf ByteArray.empty t355 0).toList == a3.toList)) else (none)) else (some false)) else (some false)) = some r := by rw [if_pos rfl] at H; exact H
                        clear H
                        have H := H1
                        clear H1
                        by_cases c55 : t354.toList = a2.toList
                        ·
                         rw [if_pos c55] at H
                         have c55b0 : (t354.toList == a2.toList) = true := beq_iff_eq.mpr c55
                         have c55b1 : (t354.toList != a2.toList) = false := bne_eq_false_iff_eq.mpr c55
                         clear c55
                         by_cases c56 : (t355.length : Int) = 1
                         ·
                          rw [if_pos c56] at H
                          have c56b0 : ((t355.length : Int) == 1) = true := beq_iff_eq.mpr c56
                          have c56b1 : ((t355.length : Int) != 1) = false := bne_eq_false_iff_eq.mpr c56
                          clear c56
                          by_cases c57 : 0 < (t355.length : Int)
                          ·
                           rw [if_pos c57] at H
                           have c57b0 : decide (0 < (t355.length : Int)) = true := decide_eq_true c57
                           have c57b1 : decide (0 < t355.length) = true := decide_eq_true (by omega)
                           clear c57
                           obtain rfl := Option.some.inj H
                           go_wp2_with (first | ((with_reducible refine gate_callee (f := 11) rfl ?_); refine goesL_ (some 113) rfl rfl Tryd.func11 (by kernel_rfl) rfl #[.string ((((⟨#[91]⟩ : ByteArray) ++ a2) ++ (⟨#[93, 58, 32]⟩ : ByteArray)) ++ a3)] rfl (by (try simp only [List.map_toArray, List.map_cons, List.map_nil]); first | done | rfl | (simp only [List.length_drop, List.length_take]; rfl)) ?_; (with_reducible refine (kind_Define.calls kj44 ((((⟨#[91]⟩ : ByteArray) ++ a2) ++ (⟨#[93, 58, 32]⟩ : ByteArray)) ++ a3) t352 t353 t354 t355 t358 t361 _ ?side1 A51.out).mono ?_); (case side1 => first | exact HT.out | exact Tabs.at HT.out (by repeat (first | (with_reducible first | exact HB.out | apply below_alloc | apply pw_below_drewN | apply below_drew1) | exact HB.out))); rintro e w58 ⟨v356, v359, v362, rfl, ho0, ho1, ho2, hb⟩; refine ⟨_, rfl, ?_⟩; have n0_ := Aside0.mk (Kd.R_lower ho0 (below_size (by repeat (first | (with_reducible first | exact HB.out | apply below_alloc | apply pw_below_drewN | apply below_drew1) | exact HB.out)))); have n1_ := Aside0.mk (Kd.N_lower (Kd.N_mono (ok' := fun k_ => some k_ ≠ (v356 : Value).ownBlock ∧ some k_ ≠ (v362 : Value).ownBlock) (Kd.R_N (Kd.R_bound (Kd.R_apart' (Kd.R_apart' ho1 (Kd.R_typed ho0) (by decide)) (Kd.R_typed ho2) (by decide)))) (fun k_ hk_ => ⟨hk_.1.1.2, hk_.1.2⟩)) (below_size (by repeat (first | (with_reducible first | exact HB.out | apply below_alloc | apply pw_below_drewN | apply below_drew1) | exact HB.out)))); have n2_ := Aside0.mk (Kd.N_lower (Kd.N_mono (ok' := fun k_ => some k_ ≠ (v356 : Value).ownBlock ∧ some k_ ≠ (v359 : Value).ownBlock) (Kd.R_N (Kd.R_bound ho2)) (fun k_ hk_ => ⟨hk_.1.1, hk_.1.2⟩)) (below_size (by repeat (first | (with_reducible first | exact HB.out | apply below_alloc | apply pw_below_drewN | apply below_drew1) | exact HB.out)))); have n3_ := Aside0.mk (below_step (by repeat (first | (with_reducible first | exact HB.out | apply below_alloc | apply pw_below_drewN | apply below_drew1) | exact HB.out)) hb); clear HB; have HO357 := n0_; have HO360 := n1_; have HO363 := n2_; have HB := n3_; clear n0_ n1_ n2_ n3_; (try clear hb); (try clear hb2); (try clear hk); (try clear hi); (try clear ho0); (try clear ho1); (try clear ho2)) | ((with_reducible refine gate_dst (N := 13) rfl ?_); (try (refine gate_guard (by rfl) ?_; dsimp only)); refine box_event ?hg (N := 13) ?hd (cs := #[.int .i64 0, .int .i64 0, .string (⟨#[]⟩ : ByteArray), .slice none 0 0, .slice none 0 0, .slice none 0 0]) (t := 32) ?hr ?_; (case hd => rfl); (case hg => rfl); (case hr => first | (go_simp; done) | (go_simp; rfl)); intro gb364 hg w59 hbox hb; have n0_ := Aside0.mk (Kd.R_below (by (with_reducible repeat (first | apply Kd.R_alloc | apply Kd.R_drewN | apply Kd.R_drew)); exact HO357.out) hb); have n1_ := Aside0.mk (Kd.N_below (Kd.N_elderB (by (with_reducible repeat (first | apply Kd.N_alloc | apply Kd.N_drewN | apply Kd.N_drew)); exact HO360.out) gb364 (Nat.le_of_eq hg.symm)) hb); have n2_ := Aside0.mk (Kd.N_below (Kd.N_elderB (by (with_reducible repeat (first | apply Kd.N_alloc | apply Kd.N_drewN | apply Kd.N_drew)); exact HO363.out) gb364 (Nat.le_of_eq hg.symm)) hb); have n3_ := Aside0.mk (below_step (by repeat (first | (with_reducible first | exact HB.out | apply below_alloc | apply pw_below_drewN | apply below_drew1) | exact HB.out)) hb); have n4_ := Aside0.mk (hbox); have n5_ := Aside0.mk ((by rw [hg]; exact (below_size (by repeat (first | (with_reducible first | exact HB.out | apply below_alloc | apply pw_below_drewN | apply below_drew1) | exact HB.out))) : w.heap.size ≤ gb364)); have n6_ := Aside0.mk ((by rw [hg]; exact (below_size (by repeat (first | (with_reducible first | exact HB.out | apply below_alloc | apply pw_below_drewN | apply below_drew1) | exact HB.out))) : w.heap.size ≤ gb364)); clear HO357; clear HO360; clear HO363; clear HB; have HO357 := n0_; have HO360 := n1_; have HO363 := n2_; have HB := n3_; have BK364 := n4_; have GW364 := n5_; have GE364 := n6_; clear n0_ n1_ n2_ n3_ n4_ n5_ n6_; clear hb hbox hg; have hcz60_0 : w59.cell? ⟨gb364, 0, none⟩ = some (.int .i64 0) := (blk_cell BK364.out 0).trans rfl; have hcz60_1 : w59.cell? ⟨gb364, 1, none⟩ = some (.int .i64 0) := (blk_cell BK364.out 1).trans rfl; have hcz60_2 : w59.cell? ⟨gb364, 2, none⟩ = some (.string (⟨#[]⟩ : ByteArray)) := (blk_cell BK364.out 2).trans rfl; have hcz60_3 : w59.cell? ⟨gb364, 3, none⟩ = some (.slice none 0 0) := (blk_cell BK364.out 3).trans rfl; have hcz60_4 : w59.cell? ⟨gb364, 4, none⟩ = some (.slice none 0 0) := (blk_cell BK364.out 4).trans rfl; have hcz60_5 : w59.cell? ⟨gb364, 5, none⟩ = some (.slice none 0 0) := (blk_cell BK364.out 5).trans rfl; have hfz60_0 := blk_frozen BK364.out 0; have hfz60_1 := blk_frozen BK364.out 1; have hfz60_2 := blk_frozen BK364.out 2; have hfz60_3 := blk_frozen BK364.out 3; have hfz60_4 := blk_frozen BK364.out 4; have hfz60_5 := blk_frozen BK364.out 5; obtain ⟨Ao61, co61, eo61⟩ := Kd.R_slice HO357.out; subst eo61; obtain ⟨Ao62, co62, eo62⟩ := Kd.N_slice HO360.out; subst eo62; obtain ⟨Ao63, co63, eo63⟩ := Kd.N_slice HO363.out; subst eo63) | ((with_reducible refine gate_dst (N := 116) rfl ?_); (try (refine gate_guard (by rfl) ?_; dsimp only)); refine Kd.R_lit Kd.string _ 9 ?hg (N := 116) ?hd (xs := ([a3] : List ByteArray)) (inner := [.string a3]) (ok := fun _ => True) (okp := fun _ => True) ?hr ?hp (fun _ hk => hk) trivial (Below.refl _ _) (Nat.le_refl _) (by simp) ?_; (case hd => rfl); (case hg => rfl); (case hr => first | (go_simp; done) | (go_simp; rfl)); (case hp => exact (Reps.one (show Kd.M Kd.string _ _ _ a3 [.string a3] from rfl) (Reps.none _ _))); intro v366 w64 ho65 hb hg_ hnew_; clear hg_ hnew_; (first | rw [← Ny365.out] at ho65 | (simp only [Int.reduceToNat] at ho65; rw [← Ny365.out] at ho65)); have n0_ := Aside0.mk (Kd.R_elder' (by (with_reducible repeat (first | apply Kd.R_alloc | apply Kd.R_drewN | apply Kd.R_drew)); exact (Kd.R_mono (Kd.R_far (p := ⟨gb364, 5, none⟩) (Kd.R_far (p := ⟨gb364, 4, none⟩) (Kd.R_far (p := ⟨gb364, 3, none⟩) (Kd.R_far (p := ⟨gb364, 2, none⟩) (Kd.R_far (p := ⟨gb364, 1, none⟩) (Kd.R_far (p := ⟨gb364, 0, none⟩) (Kd.R_types HO357.out BK364.out (by decide)) (fun _ hk => hk.2) (.int .i64 t352)) (fun _ hk => hk.2) (.int .i64 t353)) (fun _ hk => hk.2) (.string t354)) (fun _ hk => hk.2) (.slice Ao61 t355.length co61)) (fun _ hk => hk.2) (.slice Ao62 t358.length co62)) (fun _ hk => hk.2) (.slice Ao63 t361.length co63)) (fun _ h_ => h_.1))) (Kd.R_base ho65) hb); have n1_ := Aside0.mk (Kd.N_elder' (by (with_reducible repeat (first | apply Kd.N_alloc | apply Kd.N_drewN | apply Kd.N_drew)); exact (Kd.N_mono (Kd.N_far (p := ⟨gb364, 5, none⟩) (Kd.N_far (p := ⟨gb364, 4, none⟩) (Kd.N_far (p := ⟨gb364, 3, none⟩) (Kd.N_far (p := ⟨gb364, 2, none⟩) (Kd.N_far (p := ⟨gb364, 1, none⟩) (Kd.N_far (p := ⟨gb364, 0, none⟩) (Kd.N_mono HO360.out (fun k_ hk => (⟨hk, hk.2⟩ : _ ∧ k_ ≠ gb364))) (fun _ hk => hk.2) (.int .i64 t352)) (fun _ hk => hk.2) (.int .i64 t353)) (fun _ hk => hk.2) (.string t354)) (fun _ hk => hk.2) (.slice Ao61 t355.length co61)) (fun _ hk => hk.2) (.slice Ao62 t358.length co62)) (fun _ hk => hk.2) (.slice Ao63 t361.length co63)) (fun _ h_ => h_.1))) (Kd.R_base ho65) hb); have n2_ := Aside0.mk (Kd.N_elder' (by (with_reducible repeat (first | apply Kd.N_alloc | apply Kd.N_drewN | apply Kd.N_drew)); exact (Kd.N_mono (Kd.N_far (p := ⟨gb364, 5, none⟩) (Kd.N_far (p := ⟨gb364, 4, none⟩) (Kd.N_far (p := ⟨gb364, 3, none⟩) (Kd.N_far (p := ⟨gb364, 2, none⟩) (Kd.N_far (p := ⟨gb364, 1, none⟩) (Kd.N_far (p := ⟨gb364, 0, none⟩) (Kd.N_mono HO363.out (fun k_ hk => (⟨hk, hk.2⟩ : _ ∧ k_ ≠ gb364))) (fun _ hk => hk.2) (.int .i64 t352)) (fun _ hk => hk.2) (.int .i64 t353)) (fun _ hk => hk.2) (.string t354)) (fun _ hk => hk.2) (.slice Ao61 t355.length co61)) (fun _ hk => hk.2) (.slice Ao62 t358.length co62)) (fun _ hk => hk.2) (.slice Ao63 t361.length co63)) (fun _ h_ => h_.1))) (Kd.R_base ho65) hb); have n3_ := Aside0.mk (Kd.R_lower (Kd.R_new' ho65 (Kd.R_lt (by (with_reducible repeat (first | apply Kd.R_alloc | apply Kd.R_drewN | apply Kd.R_drew)); exact (Kd.R_mono (Kd.R_far (p := ⟨gb364, 5, none⟩) (Kd.R_far (p := ⟨gb364, 4, none⟩) (Kd.R_far (p := ⟨gb364, 3, none⟩) (Kd.R_far (p := ⟨gb364, 2, none⟩) (Kd.R_far (p := ⟨gb364, 1, none⟩) (Kd.R_far (p := ⟨gb364, 0, none⟩) (Kd.R_types HO357.out BK364.out (by decide)) (fun _ hk => hk.2) (.int .i64 t352)) (fun _ hk => hk.2) (.int .i64 t353)) (fun _ hk => hk.2) (.string t354)) (fun _ hk => hk.2) (.slice Ao61 t355.length co61)) (fun _ hk => hk.2) (.slice Ao62 t358.length co62)) (fun _ hk => hk.2) (.slice Ao63 t361.length co63)) (fun _ h_ => h_.1))))) (below_size (by repeat (first | (with_reducible first | exact HB.out | apply below_alloc | apply pw_below_drewN | apply below_drew1 | refine below_set ?_ GE364.out) | exact HB.out)))); have n4_ := Aside0.mk (blk_below (g := gb364) (o := .cells #[.int .i64 t352, .int .i64 t353, .string t354, .slice Ao61 t355.length co61, .slice Ao62 t358.length co62, .slice Ao63 t361.length co63] 32 (0, 0)) (by (with_reducible repeat (first | refine blk_drewN ?_ _ | refine blk_drew ?_ | refine blk_alloc ?_ _)); refine blk_put (cs := #[.int .i64 t352, .int .i64 t353, .string t354, .slice Ao61 t355.length co61, .slice Ao62 t358.length co62, .slice none 0 0]) ?_ 5 _ rfl; (with_reducible repeat (first | refine blk_drewN ?_ _ | refine blk_drew ?_ | refine blk_alloc ?_ _)); refine blk_put (cs := #[.int .i64 t352, .int .i64 t353, .string t354, .slice Ao61 t355.length co61, .slice none 0 0, .slice none 0 0]) ?_ 4 _ rfl; (with_reducible repeat (first | refine blk_drewN ?_ _ | refine blk_drew ?_ | refine blk_alloc ?_ _)); refine blk_put (cs := #[.int .i64 t352, .int .i64 t353, .string t354, .slice none 0 0, .slice none 0 0, .slice none 0 0]) ?_ 3 _ rfl; (with_reducible repeat (first | refine blk_drewN ?_ _ | refine blk_drew ?_ | refine blk_alloc ?_ _)); refine blk_put (cs := #[.int .i64 t352, .int .i64 t353, .string (⟨#[]⟩ : ByteArray), .slice none 0 0, .slice none 0 0, .slice none 0 0]) ?_ 2 _ rfl; (with_reducible repeat (first | refine blk_drewN ?_ _ | refine blk_drew ?_ | refine blk_alloc ?_ _)); refine blk_put (cs := #[.int .i64 t352, .int .i64 0, .string (⟨#[]⟩ : ByteArray), .slice none 0 0, .slice none 0 0, .slice none 0 0]) ?_ 1 _ rfl; (with_reducible repeat (first | refine blk_drewN ?_ _ | refine blk_drew ?_ | refine blk_alloc ?_ _)); refine blk_put (cs := #[.int .i64 0, .int .i64 0, .string (⟨#[]⟩ : ByteArray), .slice none 0 0, .slice none 0 0, .slice none 0 0]) ?_ 0 _ rfl; (with_reducible repeat (first | refine blk_drewN ?_ _ | refine blk_drew ?_ | refine blk_alloc ?_ _)); exact BK364.out) hb); have n5_ := Aside0.mk (below_step (by repeat (first | (with_reducible first | exact HB.out | apply below_alloc | apply pw_below_drewN | apply below_drew1 | refine below_set ?_ GE364.out) | exact HB.out)) hb); clear HO357; clear HO360; clear HO363; clear BK364; clear HB; have HO357 := n0_; have HO360 := n1_; have HO363 := n2_; have HO367 := n3_; have BK364 := n4_; have HB := n5_; clear n0_ n1_ n2_ n3_ n4_ n5_; clear hb ho65; obtain ⟨Ao66, co66, eo66⟩ := Kd.R_slice HO367.out; subst eo66) | ((with_reducible refine gate_dst (N := 118) rfl ?_); (try (refine gate_guard (by rfl) ?_; dsimp only)); refine Kd.N_lit k32 _ 32 ?hg (N' := 118) ?hd (xs := ([(⟨8, 0, a2, y365, ([] : List (S57)), ([] : List (S32))⟩ : S32)] : List (S32))) (inner := [.int .i64 8, .int .i64 0, .string a2, .slice Ao66 y365.length co66, .slice none 0 0, .slice none 0 0]) (ok := (fun k_ => some k_ ≠ (.slice Ao61 t355.length co61 : Value).ownBlock ∧ some k_ ≠ (.slice Ao62 t358.length co62 : Value).ownBlock ∧ some k_ ≠ (.slice Ao63 t361.length co63 : Value).ownBlock ∧ k_ ≠ gb364)) (okp := (fun k_ => some k_ ≠ (.slice Ao61 t355.length co61 : Value).ownBlock ∧ some k_ ≠ (.slice Ao62 t358.length co62 : Value).ownBlock ∧ some k_ ≠ (.slice Ao63 t361.length co63 : Value).ownBlock ∧ k_ ≠ gb364)) ?hr ?hp (fun _ hk => hk) ((show ∀ k_, w64.heap.size ≤ k_ → (fun k_ => some k_ ≠ (.slice Ao61 t355.length co61 : Value).ownBlock ∧ some k_ ≠ (.slice Ao62 t358.length co62 : Value).ownBlock ∧ some k_ ≠ (.slice Ao63 t361.length co63 : Value).ownBlock ∧ k_ ≠ gb364) k_ from fun k_ hk => ⟨Kd.fresh' (Kd.R_lt (by (with_reducible repeat (first | apply Kd.R_alloc | apply Kd.R_drewN | apply Kd.R_drew)); exact HO357.out)) k_ hk, Kd.fresh' (Kd.N_lt (by (with_reducible repeat (first | apply Kd.N_alloc | apply Kd.N_drewN | apply Kd.N_drew)); exact HO360.out)) k_ hk, Kd.fresh' (Kd.N_lt (by (with_reducible repeat (first | apply Kd.N_alloc | apply Kd.N_drewN | apply Kd.N_drew)); exact HO363.out)) k_ hk, Kd.freshB (g := gb364) (o := .cells #[.int .i64 t352, .int .i64 t353, .string t354, .slice Ao61 t355.length co61, .slice Ao62 t358.length co62, .slice Ao63 t361.length co63] 32 (0, 0)) (by (with_reducible repeat (first | refine blk_drewN ?_ _ | refine blk_drew ?_ | refine blk_alloc ?_ _)); exact BK364.out) k_ hk⟩) _ (Nat.le_refl _)) (Below.refl _ _) (Nat.le_refl _) (by simp) ?_; (case hd => rfl); (case hg => rfl); (case hr => first | (go_simp; done) | (go_simp; rfl)); (case hp => exact (Reps.c6 (show Kd.FK k32 _ _ (⟨8, 0, a2, y365, ([] : List (S57)), ([] : List (S32))⟩ : S32) [.int .i64 8, .int .i64 0, .string a2, .slice Ao66 y365.length co66, .slice none 0 0, .slice none 0 0] from (k32_mkF _ _ (⟨8, 0, a2, y365, ([] : List (S57)), ([] : List (S32))⟩ : S32) (Kd.R_reads' (Kd.R_mono (ok' := (fun k_ => some k_ ≠ (.slice Ao61 t355.length co61 : Value).ownBlock ∧ some k_ ≠ (.slice Ao62 t358.length co62 : Value).ownBlock ∧ some k_ ≠ (.slice Ao63 t361.length co63 : Value).ownBlock ∧ k_ ≠ gb364)) (Kd.R_types (Kd.R_apart' (Kd.R_apart' (HO367.out) (Kd.N_typed HO360.out) (by decide)) (Kd.N_typed HO363.out) (by decide)) BK364.out (by decide)) (fun k_ hk => ⟨hk.1.1.1.2, ⟨hk.1.1.2, ⟨hk.1.2, hk.2⟩⟩⟩))).2.1 (Kd.R_F (Kd.R_mono (ok' := (fun k_ => some k_ ≠ (.slice Ao61 t355.length co61 : Value).ownBlock ∧ some k_ ≠ (.slice Ao62 t358.length co62 : Value).ownBlock ∧ some k_ ≠ (.slice Ao63 t361.length co63 : Value).ownBlock ∧ k_ ≠ gb364)) (Kd.R_types (Kd.R_apart' (Kd.R_apart' (HO367.out) (Kd.N_typed HO360.out) (by decide)) (Kd.N_typed HO363.out) (by decide)) BK364.out (by decide)) (fun k_ hk => ⟨hk.1.1.1.2, ⟨hk.1.1.2, ⟨hk.1.2, hk.2⟩⟩⟩))) (Nat.le_refl _) (Kd.F_nil _ _ _) (Nat.le_refl _) (Kd.F_nil _ _ _))) (Reps.none _ _))); intro v369 w67 ho68 hb hg_ hnew_; clear hg_ hnew_; (first | rw [← Ny368.out] at ho68 | (simp only [Int.reduceToNat] at ho68; rw [← Ny368.out] at ho68)); have n0_ := Aside0.mk (Kd.R_below (by (with_reducible repeat (first | apply Kd.R_alloc | apply Kd.R_drewN | apply Kd.R_drew)); exact HO357.out) hb); have n1_ := Aside0.mk (Kd.N_elder' (by (with_reducible repeat (first | apply Kd.N_alloc | apply Kd.N_drewN | apply Kd.N_drew)); exact HO360.out) (Kd.N_base ho68) hb); have n2_ := Aside0.mk (Kd.N_elder' (by (with_reducible repeat (first | apply Kd.N_alloc | apply Kd.N_drewN | apply Kd.N_drew)); exact HO363.out) (Kd.N_base ho68) hb); have n3_ := Aside0.mk (Kd.N_lower ho68 (below_size (by repeat (first | (with_reducible first | exact HB.out | apply below_alloc | apply pw_below_drewN | apply below_drew1 | refine below_set ?_ GE364.out) | exact HB.out)))); have n4_ := Aside0.mk (blk_below (g := gb364) (o := .cells #[.int .i64 t352, .int .i64 t353, .string t354, .slice Ao61 t355.length co61, .slice Ao62 t358.length co62, .slice Ao63 t361.length co63] 32 (0, 0)) (by (with_reducible repeat (first | refine blk_drewN ?_ _ | refine blk_drew ?_ | refine blk_alloc ?_ _)); exact BK364.out) hb); have n5_ := Aside0.mk (below_step (by repeat (first | (with_reducible first | exact HB.out | apply below_alloc | apply pw_below_drewN | apply below_drew1 | refine below_set ?_ GE364.out) | exact HB.out)) hb); clear HO357; clear HO360; clear HO363; clear BK364; clear HB; clear HO367; have HO357 := n0_; have HO360 := n1_; have HO363 := n2_; have HO370 := n3_; have BK364 := n4_; have HB := n5_; clear n0_ n1_ n2_ n3_ n4_ n5_; clear hb ho68; obtain ⟨Ao69, co69, eo69⟩ := Kd.N_slice HO370.out; subst eo69) | ((with_reducible refine gate_callee (f := 12) rfl ?_); refine goesL_ (some 119) rfl rfl Tryd.func12 (by kernel_rfl) rfl #[.slice Ao69 y368.length co69] rfl (by (try simp only [List.map_toArray, List.map_cons, List.map_nil]); first | done | rfl | (simp only [List.length_drop, List.length_take]; rfl)) ?_; (with_reducible refine (emendationref10_Right.calls kj44 _ _ y368 true _ ?side1 ?side2 A52.out).mono ?_); (case side1 => repeat (first | exact (Kd.N_reads' HO370.out).2.2 | (with_reducible refine Kd.C_alloc ?_ _) | (with_reducible refine Kd.C_drewN ?_ _) | (with_reducible refine Kd.C_drew ?_))); (case side2 => exact (Kd.N_reads' HO370.out).2.1); rintro e w70 ⟨rfl, hb⟩; refine ⟨_, rfl, ?_⟩; have n0_ := Aside0.mk (Kd.R_below (by (with_reducible repeat (first | apply Kd.R_alloc | apply Kd.R_drewN | apply Kd.R_drew)); exact HO357.out) hb); have n1_ := Aside0.mk (Kd.N_below (by (with_reducible repeat (first | apply Kd.N_alloc | apply Kd.N_drewN | apply Kd.N_drew)); exact HO360.out) hb); have n2_ := Aside0.mk (Kd.N_below (by (with_reducible repeat (first | apply Kd.N_alloc | apply Kd.N_drewN | apply Kd.N_drew)); exact HO363.out) hb); have n3_ := Aside0.mk (Kd.N_below (by (with_reducible repeat (first | apply Kd.N_alloc | apply Kd.N_drewN | apply Kd.N_drew)); exact HO370.out) hb); have n4_ := Aside0.mk (blk_below (g := gb364) (o := .cells #[.int .i64 t352, .int .i64 t353, .string t354, .slice Ao61 t355.length co61, .slice Ao62 t358.length co62, .slice Ao63 t361.length co63] 32 (0, 0)) (by (with_reducible repeat (first | refine blk_drewN ?_ _ | refine blk_drew ?_ | refine blk_alloc ?_ _)); exact BK364.out) hb); have n5_ := Aside0.mk (below_step (by repeat (first | (with_reducible first | exact HB.out | apply below_alloc | apply pw_below_drewN | apply below_drew1 | refine below_set ?_ GE364.out) | exact HB.out)) hb); clear HO357; clear HO360; clear HO363; clear HO370; clear BK364; clear HB; have HO357 := n0_; have HO360 := n1_; have HO363 := n2_; have HO370 := n3_; have BK364 := n4_; have HB := n5_; clear n0_ n1_ n2_ n3_ n4_ n5_; (try clear hb); (try clear hb2); (try clear hk); (try clear hi); have hcz71_0 : w70.cell? ⟨gb364, 0, none⟩ = some (.int .i64 t352) := (blk_cell BK364.out 0).trans rfl; have hcz71_1 : w70.cell? ⟨gb364, 1, none⟩ = some (.int .i64 t353) := (blk_cell BK364.out 1).trans rfl; have hcz71_2 : w70.cell? ⟨gb364, 2, none⟩ = some (.string t354) := (blk_cell BK364.out 2).trans rfl; have hcz71_3 : w70.cell? ⟨gb364, 3, none⟩ = some (.slice Ao61 t355.length co61) := (blk_cell BK364.out 3).trans rfl; have hcz71_4 : w70.cell? ⟨gb364, 4, none⟩ = some (.slice Ao62 t358.length co62) := (blk_cell BK364.out 4).trans rfl; have hcz71_5 : w70.cell? ⟨gb364, 5, none⟩ = some (.slice Ao63 t361.length co63) := (blk_cell BK364.out 5).trans rfl; have hfz71_0 := blk_frozen BK364.out 0; have hfz71_1 := blk_frozen BK364.out 1; have hfz71_2 := blk_frozen BK364.out 2; have hfz71_3 := blk_frozen BK364.out 3; have hfz71_4 := blk_frozen BK364.out 4; have hfz71_5 := blk_frozen BK364.out 5; have p372 : 0 ≤ (0 : Int) := (by omega); have q372 : 0 < (t355.length : Int) := of_decide_eq_true (by first | (with_reducible assumption) | assumption); obtain ⟨ad372, e372, hx372_0⟩ := Kd.at_string (Kd.R_reads' HO357.out).2.2 0 p372 q372; cases e372; have qi372 : (0 < t355.length) = True := eq_true (by omega); (try rw [show ((0 : Int)).toNat = 0 from rfl] at hx372_0); (try rw [Addr.add_zero'] at hx372_0); replace p372 := eq_true p372; replace q372 := eq_true q372))
                           go_ret
                           exact ⟨by first | rfl | (simp [errW_none, errW_some] <;> rfl) | (simp [*, errW_none, errW_some] <;> rfl), by repeat (first | (with_reducible first | exact HB.out | apply below_alloc | apply pw_below_drewN | apply below_drew1 | refine below_set ?_ GE364.out) | exact HB.out)⟩
                          ·
                           rw [if_neg c57] at H
                           exact absurd H (by simp)
                         ·
                          rw [if_neg c56] at H
                          have c56b0 : ((t355.length : Int) == 1) = false := beq_eq_false_iff_ne.mpr c56
                          have c56b1 : ((t355.length : Int) != 1) = true := bne_iff_ne.mpr c56
                          obtain rfl := Option.some.inj H
                          go_wp2_with (first | ((with_reducible refine gate_callee (f := 11) rfl ?_); refine goesL_ (some 113) rfl rfl Tryd.func11 (by kernel_rfl) rfl #[.string ((((⟨#[91]⟩ : ByteArray) ++ a2) ++ (⟨#[93, 58, 32]⟩ : ByteArray)) ++ a3)] rfl (by (try simp only [List.map_toArray, List.map_cons, List.map_nil]); first | done | rfl | (simp only [List.length_drop, List.length_take]; rfl)) ?_; (with_reducible refine (kind_Define.calls kj44 ((((⟨#[91]⟩ : ByteArray) ++ a2) ++ (⟨#[93, 58, 32]⟩ : ByteArray)) ++ a3) t352 t353 t354 t355 t358 t361 _ ?side1 A51.out).mono ?_); (case side1 => first | exact HT.out | exact Tabs.at HT.out (by repeat (first | (with_reducible first | exact HB.out | apply below_alloc | apply pw_below_drewN | apply below_drew1) | exact HB.out))); rintro e w72 ⟨v356, v359, v362, rfl, ho0, ho1, ho2, hb⟩; refine ⟨_, rfl, ?_⟩; have n0_ := Aside0.mk (Kd.R_lower ho0 (below_size (by repeat (first | (with_reducible first | exact HB.out | apply below_alloc | apply pw_below_drewN | apply below_drew1) | exact HB.out)))); have n1_ := Aside0.mk (Kd.N_lower (Kd.N_mono (ok' := fun k_ => some k_ ≠ (v356 : Value).ownBlock ∧ some k_ ≠ (v362 : Value).ownBlock) (Kd.R_N (Kd.R_bound (Kd.R_apart' (Kd.R_apart' ho1 (Kd.R_typed ho0) (by decide)) (Kd.R_typed ho2) (by decide)))) (fun k_ hk_ => ⟨hk_.1.1.2, hk_.1.2⟩)) (below_size (by repeat (first | (with_reducible first | exact HB.out | apply below_alloc | apply pw_below_drewN | apply below_drew1) | exact HB.out)))); have n2_ := Aside0.mk (Kd.N_lower (Kd.N_mono (ok' := fun k_ => some k_ ≠ (v356 : Value).ownBlock ∧ some k_ ≠ (v359 : Value).ownBlock) (Kd.R_N (Kd.R_bound ho2)) (fun k_ hk_ => ⟨hk_.1.1, hk_.1.2⟩)) (below_size (by repeat (first | (with_reducible first | exact HB.out | apply below_alloc | apply pw_below_drewN | apply below_drew1) | exact HB.out)))); have n3_ := Aside0.mk (below_step (by repeat (first | (with_reducible first | exact HB.out | apply below_alloc | apply pw_below_drewN | apply below_drew1) | exact HB.out)) hb); clear HB; have HO357 := n0_; have HO360 := n1_; have HO363 := n2_; have HB := n3_; clear n0_ n1_ n2_ n3_; (try clear hb); (try clear hb2); (try clear hk); (try clear hi); (try clear ho0); (try clear ho1); (try clear ho2)) | ((with_reducible refine gate_dst (N := 13) rfl ?_); (try (refine gate_guard (by rfl) ?_; dsimp only)); refine box_event ?hg (N := 13) ?hd (cs := #[.int .i64 0, .int .i64 0, .string (⟨#[]⟩ : ByteArray), .slice none 0 0, .slice none 0 0, .slice none 0 0]) (t := 32) ?hr ?_; (case hd => rfl); (case hg => rfl); (case hr => first | (go_simp; done) | (go_simp; rfl)); intro gb364 hg w73 hbox hb; have n0_ := Aside0.mk (Kd.R_below (by (with_reducible repeat (first | apply Kd.R_alloc | apply Kd.R_drewN | apply Kd.R_drew)); exact HO357.out) hb); have n1_ := Aside0.mk (Kd.N_below (Kd.N_elderB (by (with_reducible repeat (first | apply Kd.N_alloc | apply Kd.N_drewN | apply Kd.N_drew)); exact HO360.out) gb364 (Nat.le_of_eq hg.symm)) hb); have n2_ := Aside0.mk (Kd.N_below (Kd.N_elderB (by (with_reducible repeat (first | apply Kd.N_alloc | apply Kd.N_drewN | apply Kd.N_drew)); exact HO363.out) gb364 (Nat.le_of_eq hg.symm)) hb); have n3_ := Aside0.mk (below_step (by repeat (first | (with_reducible first | exact HB.out | apply below_alloc | apply pw_below_drewN | apply below_drew1) | exact HB.out)) hb); have n4_ := Aside0.mk (hbox); have n5_ := Aside0.mk ((by rw [hg]; exact (below_size (by repeat (first | (with_reducible first | exact HB.out | apply below_alloc | apply pw_below_drewN | apply below_drew1) | exact HB.out))) : w.heap.size ≤ gb364)); have n6_ := Aside0.mk ((by rw [hg]; exact (below_size (by repeat (first | (with_reducible first | exact HB.out | apply below_alloc | apply pw_below_drewN | apply below_drew1) | exact HB.out))) : w.heap.size ≤ gb364)); clear HO357; clear HO360; clear HO363; clear HB; have HO357 := n0_; have HO360 := n1_; have HO363 := n2_; have HB := n3_; have BK364 := n4_; have GW364 := n5_; have GE364 := n6_; clear n0_ n1_ n2_ n3_ n4_ n5_ n6_; clear hb hbox hg; have hcz74_0 : w73.cell? ⟨gb364, 0, none⟩ = some (.int .i64 0) := (blk_cell BK364.out 0).trans rfl; have hcz74_1 : w73.cell? ⟨gb364, 1, none⟩ = some (.int .i64 0) := (blk_cell BK364.out 1).trans rfl; have hcz74_2 : w73.cell? ⟨gb364, 2, none⟩ = some (.string (⟨#[]⟩ : ByteArray)) := (blk_cell BK364.out 2).trans rfl; have hcz74_3 : w73.cell? ⟨gb364, 3, none⟩ = some (.slice none 0 0) := (blk_cell BK364.out 3).trans rfl; have hcz74_4 : w73.cell? ⟨gb364, 4, none⟩ = some (.slice none 0 0) := (blk_cell BK364.out 4).trans rfl; have hcz74_5 : w73.cell? ⟨gb364, 5, none⟩ = some (.slice none 0 0) := (blk_cell BK364.out 5).trans rfl; have hfz74_0 := blk_frozen BK364.out 0; have hfz74_1 := blk_frozen BK364.out 1; have hfz74_2 := blk_frozen BK364.out 2; have hfz74_3 := blk_frozen BK364.out 3; have hfz74_4 := blk_frozen BK364.out 4; have hfz74_5 := blk_frozen BK364.out 5; obtain ⟨Ao75, co75, eo75⟩ := Kd.R_slice HO357.out; subst eo75; obtain ⟨Ao76, co76, eo76⟩ := Kd.N_slice HO360.out; subst eo76; obtain ⟨Ao77, co77, eo77⟩ := Kd.N_slice HO363.out; subst eo77) | ((with_reducible refine gate_dst (N := 116) rfl ?_); (try (refine gate_guard (by rfl) ?_; dsimp only)); refine Kd.R_lit Kd.string _ 9 ?hg (N := 116) ?hd (xs := ([a3] : List ByteArray)) (inner := [.string a3]) (ok := fun _ => True) (okp := fun _ => True) ?hr ?hp (fun _ hk => hk) trivial (Below.refl _ _) (Nat.le_refl _) (by simp) ?_; (case hd => rfl); (case hg => rfl); (case hr => first | (go_simp; done) | (go_simp; rfl)); (case hp => exact (Reps.one (show Kd.M Kd.string _ _ _ a3 [.string a3] from rfl) (Reps.none _ _))); intro v366 w78 ho79 hb hg_ hnew_; clear hg_ hnew_; (first | rw [← Ny365.out] at ho79 | (simp only [Int.reduceToNat] at ho79; rw [← Ny365.out] at ho79)); have n0_ := Aside0.mk (Kd.R_elder' (by (with_reducible repeat (first | apply Kd.R_alloc | apply Kd.R_drewN | apply Kd.R_drew)); exact (Kd.R_mono (Kd.R_far (p := ⟨gb364, 5, none⟩) (Kd.R_far (p := ⟨gb364, 4, none⟩) (Kd.R_far (p := ⟨gb364, 3, none⟩) (Kd.R_far (p := ⟨gb364, 2, none⟩) (Kd.R_far (p := ⟨gb364, 1, none⟩) (Kd.R_far (p := ⟨gb364, 0, none⟩) (Kd.R_types HO357.out BK364.out (by decide)) (fun _ hk => hk.2) (.int .i64 t352)) (fun _ hk => hk.2) (.int .i64 t353)) (fun _ hk => hk.2) (.string t354)) (fun _ hk => hk.2) (.slice Ao75 t355.length co75)) (fun _ hk => hk.2) (.slice Ao76 t358.length co76)) (fun _ hk => hk.2) (.slice Ao77 t361.length co77)) (fun _ h_ => h_.1))) (Kd.R_base ho79) hb); have n1_ := Aside0.mk (Kd.N_elder' (by (with_reducible repeat (first | apply Kd.N_alloc | apply Kd.N_drewN | apply Kd.N_drew)); exact (Kd.N_mono (Kd.N_far (p := ⟨gb364, 5, none⟩) (Kd.N_far (p := ⟨gb364, 4, none⟩) (Kd.N_far (p := ⟨gb364, 3, none⟩) (Kd.N_far (p := ⟨gb364, 2, none⟩) (Kd.N_far (p := ⟨gb364, 1, none⟩) (Kd.N_far (p := ⟨gb364, 0, none⟩) (Kd.N_mono HO360.out (fun k_ hk => (⟨hk, hk.2⟩ : _ ∧ k_ ≠ gb364))) (fun _ hk => hk.2) (.int .i64 t352)) (fun _ hk => hk.2) (.int .i64 t353)) (fun _ hk => hk.2) (.string t354)) (fun _ hk => hk.2) (.slice Ao75 t355.length co75)) (fun _ hk => hk.2) (.slice Ao76 t358.length co76)) (fun _ hk => hk.2) (.slice Ao77 t361.length co77)) (fun _ h_ => h_.1))) (Kd.R_base ho79) hb); have n2_ := Aside0.mk (Kd.N_elder' (by (with_reducible repeat (first | apply Kd.N_alloc | apply Kd.N_drewN | apply Kd.N_drew)); exact (Kd.N_mono (Kd.N_far (p := ⟨gb364, 5, none⟩) (Kd.N_far (p := ⟨gb364, 4, none⟩) (Kd.N_far (p := ⟨gb364, 3, none⟩) (Kd.N_far (p := ⟨gb364, 2, none⟩) (Kd.N_far (p := ⟨gb364, 1, none⟩) (Kd.N_far (p := ⟨gb364, 0, none⟩) (Kd.N_mono HO363.out (fun k_ hk => (⟨hk, hk.2⟩ : _ ∧ k_ ≠ gb364))) (fun _ hk => hk.2) (.int .i64 t352)) (fun _ hk => hk.2) (.int .i64 t353)) (fun _ hk => hk.2) (.string t354)) (fun _ hk => hk.2) (.slice Ao75 t355.length co75)) (fun _ hk => hk.2) (.slice Ao76 t358.length co76)) (fun _ hk => hk.2) (.slice Ao77 t361.length co77)) (fun _ h_ => h_.1))) (Kd.R_base ho79) hb); have n3_ := Aside0.mk (Kd.R_lower (Kd.R_new' ho79 (Kd.R_lt (by (with_reducible repeat (first | apply Kd.R_alloc | apply Kd.R_drewN | apply Kd.R_drew)); exact (Kd.R_mono (Kd.R_far (p := ⟨gb364, 5, none⟩) (Kd.R_far (p := ⟨gb364, 4, none⟩) (Kd.R_far (p := ⟨gb364, 3, none⟩) (Kd.R_far (p := ⟨gb364, 2, none⟩) (Kd.R_far (p := ⟨gb364, 1, none⟩) (Kd.R_far (p := ⟨gb364, 0, none⟩) (Kd.R_types HO357.out BK364.out (by decide)) (fun _ hk => hk.2) (.int .i64 t352)) (fun _ hk => hk.2) (.int .i64 t353)) (fun _ hk => hk.2) (.string t354)) (fun _ hk => hk.2) (.slice Ao75 t355.length co75)) (fun _ hk => hk.2) (.slice Ao76 t358.length co76)) (fun _ hk => hk.2) (.slice Ao77 t361.length co77)) (fun _ h_ => h_.1))))) (below_size (by repeat (first | (with_reducible first | exact HB.out | apply below_alloc | apply pw_below_drewN | apply below_drew1 | refine below_set ?_ GE364.out) | exact HB.out)))); have n4_ := Aside0.mk (blk_below (g := gb364) (o := .cells #[.int .i64 t352, .int .i64 t353, .string t354, .slice Ao75 t355.length co75, .slice Ao76 t358.length co76, .slice Ao77 t361.length co77] 32 (0, 0)) (by (with_reducible repeat (first | refine blk_drewN ?_ _ | refine blk_drew ?_ | refine blk_alloc ?_ _)); refine blk_put (cs := #[.int .i64 t352, .int .i64 t353, .string t354, .slice Ao75 t355.length co75, .slice Ao76 t358.length co76, .slice none 0 0]) ?_ 5 _ rfl; (with_reducible repeat (first | refine blk_drewN ?_ _ | refine blk_drew ?_ | refine blk_alloc ?_ _)); refine blk_put (cs := #[.int .i64 t352, .int .i64 t353, .string t354, .slice Ao75 t355.length co75, .slice none 0 0, .slice none 0 0]) ?_ 4 _ rfl; (with_reducible repeat (first | refine blk_drewN ?_ _ | refine blk_drew ?_ | refine blk_alloc ?_ _)); refine blk_put (cs := #[.int .i64 t352, .int .i64 t353, .string t354, .slice none 0 0, .slice none 0 0, .slice none 0 0]) ?_ 3 _ rfl; (with_reducible repeat (first | refine blk_drewN ?_ _ | refine blk_drew ?_ | refine blk_alloc ?_ _)); refine blk_put (cs := #[.int .i64 t352, .int .i64 t353, .string (⟨#[]⟩ : ByteArray), .slice none 0 0, .slice none 0 0, .slice none 0 0]) ?_ 2 _ rfl; (with_reducible repeat (first | refine blk_drewN ?_ _ | refine blk_drew ?_ | refine blk_alloc ?_ _)); refine blk_put (cs := #[.int .i64 t352, .int .i64 0, .string (⟨#[]⟩ : ByteArray), .slice none 0 0, .slice none 0 0, .slice none 0 0]) ?_ 1 _ rfl; (with_reducible repeat (first | refine blk_drewN ?_ _ | refine blk_drew ?_ | refine blk_alloc ?_ _)); refine blk_put (cs := #[.int .i64 0, .int .i64 0, .string (⟨#[]⟩ : ByteArray), .slice none 0 0, .slice none 0 0, .slice none 0 0]) ?_ 0 _ rfl; (with_reducible repeat (first | refine blk_drewN ?_ _ | refine blk_drew ?_ | refine blk_alloc ?_ _)); exact BK364.out) hb); have n5_ := Aside0.mk (below_step (by repeat (first | (with_reducible first | exact HB.out | apply below_alloc | apply pw_below_drewN | apply below_drew1 | refine below_set ?_ GE364.out) | exact HB.out)) hb); clear HO357; clear HO360; clear HO363; clear BK364; clear HB; have HO357 := n0_; have HO360 := n1_; have HO363 := n2_; have HO367 := n3_; have BK364 := n4_; have HB := n5_; clear n0_ n1_ n2_ n3_ n4_ n5_; clear hb ho79; obtain ⟨Ao80, co80, eo80⟩ := Kd.R_slice HO367.out; subst eo80) | ((with_reducible refine gate_dst (N := 118) rfl ?_); (try (refine gate_guard (by rfl) ?_; dsimp only)); refine Kd.N_lit k32 _ 32 ?hg (N' := 118) ?hd (xs := ([(⟨8, 0, a2, y365, ([] : List (S57)), ([] : List (S32))⟩ : S32)] : List (S32))) (inner := [.int .i64 8, .int .i64 0, .string a2, .slice Ao80 y365.length co80, .slice none 0 0, .slice none 0 0]) (ok := (fun k_ => some k_ ≠ (.slice Ao75 t355.length co75 : Value).ownBlock ∧ some k_ ≠ (.slice Ao76 t358.length co76 : Value).ownBlock ∧ some k_ ≠ (.slice Ao77 t361.length co77 : Value).ownBlock ∧ k_ ≠ gb364)) (okp := (fun k_ => some k_ ≠ (.slice Ao75 t355.length co75 : Value).ownBlock ∧ some k_ ≠ (.slice Ao76 t358.length co76 : Value).ownBlock ∧ some k_ ≠ (.slice Ao77 t361.length co77 : Value).ownBlock ∧ k_ ≠ gb364)) ?hr ?hp (fun _ hk => hk) ((show ∀ k_, w78.heap.size ≤ k_ → (fun k_ => some k_ ≠ (.slice Ao75 t355.length co75 : Value).ownBlock ∧ some k_ ≠ (.slice Ao76 t358.length co76 : Value).ownBlock ∧ some k_ ≠ (.slice Ao77 t361.length co77 : Value).ownBlock ∧ k_ ≠ gb364) k_ from fun k_ hk => ⟨Kd.fresh' (Kd.R_lt (by (with_reducible repeat (first | apply Kd.R_alloc | apply Kd.R_drewN | apply Kd.R_drew)); exact HO357.out)) k_ hk, Kd.fresh' (Kd.N_lt (by (with_reducible repeat (first | apply Kd.N_alloc | apply Kd.N_drewN | apply Kd.N_drew)); exact HO360.out)) k_ hk, Kd.fresh' (Kd.N_lt (by (with_reducible repeat (first | apply Kd.N_alloc | apply Kd.N_drewN | apply Kd.N_drew)); exact HO363.out)) k_ hk, Kd.freshB (g := gb364) (o := .cells #[.int .i64 t352, .int .i64 t353, .string t354, .slice Ao75 t355.length co75, .slice Ao76 t358.length co76, .slice Ao77 t361.length co77] 32 (0, 0)) (by (with_reducible repeat (first | refine blk_drewN ?_ _ | refine blk_drew ?_ | refine blk_alloc ?_ _)); exact BK364.out) k_ hk⟩) _ (Nat.le_refl _)) (Below.refl _ _) (Nat.le_refl _) (by simp) ?_; (case hd => rfl); (case hg => rfl); (case hr => first | (go_simp; done) | (go_simp; rfl)); (case hp => exact (Reps.c6 (show Kd.FK k32 _ _ (⟨8, 0, a2, y365, ([] : List (S57)), ([] : List (S32))⟩ : S32) [.int .i64 8, .int .i64 0, .string a2, .slice Ao80 y365.length co80, .slice none 0 0, .slice none 0 0] from (k32_mkF _ _ (⟨8, 0, a2, y365, ([] : List (S57)), ([] : List (S32))⟩ : S32) (Kd.R_reads' (Kd.R_mono (ok' := (fun k_ => some k_ ≠ (.slice Ao75 t355.length co75 : Value).ownBlock ∧ some k_ ≠ (.slice Ao76 t358.length co76 : Value).ownBlock ∧ some k_ ≠ (.slice Ao77 t361.length co77 : Value).ownBlock ∧ k_ ≠ gb364)) (Kd.R_types (Kd.R_apart' (Kd.R_apart' (HO367.out) (Kd.N_typed HO360.out) (by decide)) (Kd.N_typed HO363.out) (by decide)) BK364.out (by decide)) (fun k_ hk => ⟨hk.1.1.1.2, ⟨hk.1.1.2, ⟨hk.1.2, hk.2⟩⟩⟩))).2.1 (Kd.R_F (Kd.R_mono (ok' := (fun k_ => some k_ ≠ (.slice Ao75 t355.length co75 : Value).ownBlock ∧ some k_ ≠ (.slice Ao76 t358.length co76 : Value).ownBlock ∧ some k_ ≠ (.slice Ao77 t361.length co77 : Value).ownBlock ∧ k_ ≠ gb364)) (Kd.R_types (Kd.R_apart' (Kd.R_apart' (HO367.out) (Kd.N_typed HO360.out) (by decide)) (Kd.N_typed HO363.out) (by decide)) BK364.out (by decide)) (fun k_ hk => ⟨hk.1.1.1.2, ⟨hk.1.1.2, ⟨hk.1.2, hk.2⟩⟩⟩))) (Nat.le_refl _) (Kd.F_nil _ _ _) (Nat.le_refl _) (Kd.F_nil _ _ _))) (Reps.none _ _))); intro v369 w81 ho82 hb hg_ hnew_; clear hg_ hnew_; (first | rw [← Ny368.out] at ho82 | (simp only [Int.reduceToNat] at ho82; rw [← Ny368.out] at ho82)); have n0_ := Aside0.mk (Kd.R_below (by (with_reducible repeat (first | apply Kd.R_alloc | apply Kd.R_drewN | apply Kd.R_drew)); exact HO357.out) hb); have n1_ := Aside0.mk (Kd.N_elder' (by (with_reducible repeat (first | apply Kd.N_alloc | apply Kd.N_drewN | apply Kd.N_drew)); exact HO360.out) (Kd.N_base ho82) hb); have n2_ := Aside0.mk (Kd.N_elder' (by (with_reducible repeat (first | apply Kd.N_alloc | apply Kd.N_drewN | apply Kd.N_drew)); exact HO363.out) (Kd.N_base ho82) hb); have n3_ := Aside0.mk (Kd.N_lower ho82 (below_size (by repeat (first | (with_reducible first | exact HB.out | apply below_alloc | apply pw_below_drewN | apply below_drew1 | refine below_set ?_ GE364.out) | exact HB.out)))); have n4_ := Aside0.mk (blk_below (g := gb364) (o := .cells #[.int .i64 t352, .int .i64 t353, .string t354, .slice Ao75 t355.length co75, .slice Ao76 t358.length co76, .slice Ao77 t361.length co77] 32 (0, 0)) (by (with_reducible repeat (first | refine blk_drewN ?_ _ | refine blk_drew ?_ | refine blk_alloc ?_ _)); exact BK364.out) hb); have n5_ := Aside0.mk (below_step (by repeat (first | (with_reducible first | exact HB.out | apply below_alloc | apply pw_below_drewN | apply below_drew1 | refine below_set ?_ GE364.out) | exact HB.out)) hb); clear HO357; clear HO360; clear HO363; clear BK364; clear HB; clear HO367; have HO357 := n0_; have HO360 := n1_; have HO363 := n2_; have HO370 := n3_; have BK364 := n4_; have HB := n5_; clear n0_ n1_ n2_ n3_ n4_ n5_; clear hb ho82; obtain ⟨Ao83, co83, eo83⟩ := Kd.N_slice HO370.out; subst eo83) | ((with_reducible refine gate_callee (f := 12) rfl ?_); refine goesL_ (some 119) rfl rfl Tryd.func12 (by kernel_rfl) rfl #[.slice Ao83 y368.length co83] rfl (by (try simp only [List.map_toArray, List.map_cons, List.map_nil]); first | done | rfl | (simp only [List.length_drop, List.length_take]; rfl)) ?_; (with_reducible refine (emendationref10_Right.calls kj44 _ _ y368 true _ ?side1 ?side2 A52.out).mono ?_); (case side1 => repeat (first | exact (Kd.N_reads' HO370.out).2.2 | (with_reducible refine Kd.C_alloc ?_ _) | (with_reducible refine Kd.C_drewN ?_ _) | (with_reducible refine Kd.C_drew ?_))); (case side2 => exact (Kd.N_reads' HO370.out).2.1); rintro e w84 ⟨rfl, hb⟩; refine ⟨_, rfl, ?_⟩; have n0_ := Aside0.mk (Kd.R_below (by (with_reducible repeat (first | apply Kd.R_alloc | apply Kd.R_drewN | apply Kd.R_drew)); exact HO357.out) hb); have n1_ := Aside0.mk (Kd.N_below (by (with_reducible repeat (first | apply Kd.N_alloc | apply Kd.N_drewN | apply Kd.N_drew)); exact HO360.out) hb); have n2_ := Aside0.mk (Kd.N_below (by (with_reducible repeat (first | apply Kd.N_alloc | apply Kd.N_drewN | apply Kd.N_drew)); exact HO363.out) hb); have n3_ := Aside0.mk (Kd.N_below (by (with_reducible repeat (first | apply Kd.N_alloc | apply Kd.N_drewN | apply Kd.N_drew)); exact HO370.out) hb); have n4_ := Aside0.mk (blk_below (g := gb364) (o := .cells #[.int .i64 t352, .int .i64 t353, .string t354, .slice Ao75 t355.length co75, .slice Ao76 t358.length co76, .slice Ao77 t361.length co77] 32 (0, 0)) (by (with_reducible repeat (first | refine blk_drewN ?_ _ | refine blk_drew ?_ | refine blk_alloc ?_ _)); exact BK364.out) hb); have n5_ := Aside0.mk (below_step (by repeat (first | (with_reducible first | exact HB.out | apply below_alloc | apply pw_below_drewN | apply below_drew1 | refine below_set ?_ GE364.out) | exact HB.out)) hb); clear HO357; clear HO360; clear HO363; clear HO370; clear BK364; clear HB; have HO357 := n0_; have HO360 := n1_; have HO363 := n2_; have HO370 := n3_; have BK364 := n4_; have HB := n5_; clear n0_ n1_ n2_ n3_ n4_ n5_; (try clear hb); (try clear hb2); (try clear hk); (try clear hi); have hcz85_0 : w84.cell? ⟨gb364, 0, none⟩ = some (.int .i64 t352) := (blk_cell BK364.out 0).trans rfl; have hcz85_1 : w84.cell? ⟨gb364, 1, none⟩ = some (.int .i64 t353) := (blk_cell BK364.out 1).trans rfl; have hcz85_2 : w84.cell? ⟨gb364, 2, none⟩ = some (.string t354) := (blk_cell BK364.out 2).trans rfl; have hcz85_3 : w84.cell? ⟨gb364, 3, none⟩ = some (.slice Ao75 t355.length co75) := (blk_cell BK364.out 3).trans rfl; have hcz85_4 : w84.cell? ⟨gb364, 4, none⟩ = some (.slice Ao76 t358.length co76) := (blk_cell BK364.out 4).trans rfl; have hcz85_5 : w84.cell? ⟨gb364, 5, none⟩ = some (.slice Ao77 t361.length co77) := (blk_cell BK364.out 5).trans rfl; have hfz85_0 := blk_frozen BK364.out 0; have hfz85_1 := blk_frozen BK364.out 1; have hfz85_2 := blk_frozen BK364.out 2; have hfz85_3 := blk_frozen BK364.out 3; have hfz85_4 := blk_frozen BK364.out 4; have hfz85_5 := blk_frozen BK364.out 5))
                          go_ret
                          exact ⟨by first | rfl | (simp [errW_none, errW_some] <;> rfl) | (simp [*, errW_none, errW_some] <;> rfl), by repeat (first | (with_reducible first | exact HB.out | apply below_alloc | apply pw_below_drewN | apply below_drew1 | refine below_set ?_ GE364.out) | exact HB.out)⟩
                        ·
                         rw [if_neg c55] at H
                         have c55b0 : (t354.toList == a2.toList) = false := beq_eq_false_iff_ne.mpr c55
                         have c55b1 : (t354.toList != a2.toList) = true := bne_iff_ne.mpr c55
                         obtain rfl := Option.some.inj H
                         go_wp2_with (first | ((with_reducible refine gate_callee (f := 11) rfl ?_); refine goesL_ (some 113) rfl rfl Tryd.func11 (by kernel_rfl) rfl #[.string ((((⟨#[91]⟩ : ByteArray) ++ a2) ++ (⟨#[93, 58, 32]⟩ : ByteArray)) ++ a3)] rfl (by (try simp only [List.map_toArray, List.map_cons, List.map_nil]); first | done | rfl | (simp only [List.length_drop, List.length_take]; rfl)) ?_; (with_reducible refine (kind_Define.calls kj44 ((((⟨#[91]⟩ : ByteArray) ++ a2) ++ (⟨#[93, 58, 32]⟩ : ByteArray)) ++ a3) t352 t353 t354 t355 t358 t361 _ ?side1 A51.out).mono ?_); (case side1 => first | exact HT.out | exact Tabs.at HT.out (by repeat (first | (with_reducible first | exact HB.out | apply below_alloc | apply pw_below_drewN | apply below_drew1) | exact HB.out))); rintro e w86 ⟨v356, v359, v362, rfl, ho0, ho1, ho2, hb⟩; refine ⟨_, rfl, ?_⟩; have n0_ := Aside0.mk (Kd.R_lower ho0 (below_size (by repeat (first | (with_reducible first | exact HB.out | apply below_alloc | apply pw_below_drewN | apply below_drew1) | exact HB.out)))); have n1_ := Aside0.mk (Kd.N_lower (Kd.N_mono (ok' := fun k_ => some k_ ≠ (v356 : Value).ownBlock ∧ some k_ ≠ (v362 : Value).ownBlock) (Kd.R_N (Kd.R_bound (Kd.R_apart' (Kd.R_apart' ho1 (Kd.R_typed ho0) (by decide)) (Kd.R_typed ho2) (by decide)))) (fun k_ hk_ => ⟨hk_.1.1.2, hk_.1.2⟩)) (below_size (by repeat (first | (with_reducible first | exact HB.out | apply below_alloc | apply pw_below_drewN | apply below_drew1) | exact HB.out)))); have n2_ := Aside0.mk (Kd.N_lower (Kd.N_mono (ok' := fun k_ => some k_ ≠ (v356 : Value).ownBlock ∧ some k_ ≠ (v359 : Value).ownBlock) (Kd.R_N (Kd.R_bound ho2)) (fun k_ hk_ => ⟨hk_.1.1, hk_.1.2⟩)) (below_size (by repeat (first | (with_reducible first | exact HB.out | apply below_alloc | apply pw_below_drewN | apply below_drew1) | exact HB.out)))); have n3_ := Aside0.mk (below_step (by repeat (first | (with_reducible first | exact HB.out | apply below_alloc | apply pw_below_drewN | apply below_drew1) | exact HB.out)) hb); clear HB; have HO357 := n0_; have HO360 := n1_; have HO363 := n2_; have HB := n3_; clear n0_ n1_ n2_ n3_; (try clear hb); (try clear hb2); (try clear hk); (try clear hi); (try clear ho0); (try clear ho1); (try clear ho2)) | ((with_reducible refine gate_dst (N := 13) rfl ?_); (try (refine gate_guard (by rfl) ?_; dsimp only)); refine box_event ?hg (N := 13) ?hd (cs := #[.int .i64 0, .int .i64 0, .string (⟨#[]⟩ : ByteArray), .slice none 0 0, .slice none 0 0, .slice none 0 0]) (t := 32) ?hr ?_; (case hd => rfl); (case hg => rfl); (case hr => first | (go_simp; done) | (go_simp; rfl)); intro gb364 hg w87 hbox hb; have n0_ := Aside0.mk (Kd.R_below (by (with_reducible repeat (first | apply Kd.R_alloc | apply Kd.R_drewN | apply Kd.R_drew)); exact HO357.out) hb); have n1_ := Aside0.mk (Kd.N_below (Kd.N_elderB (by (with_reducible repeat (first | apply Kd.N_alloc | apply Kd.N_drewN | apply Kd.N_drew)); exact HO360.out) gb364 (Nat.le_of_eq hg.symm)) hb); have n2_ := Aside0.mk (Kd.N_below (Kd.N_elderB (by (with_reducible repeat (first | apply Kd.N_alloc | apply Kd.N_drewN | apply Kd.N_drew)); exact HO363.out) gb364 (Nat.le_of_eq hg.symm)) hb); have n3_ := Aside0.mk (below_step (by repeat (first | (with_reducible first | exact HB.out | apply below_alloc | apply pw_below_drewN | apply below_drew1) | exact HB.out)) hb); have n4_ := Aside0.mk (hbox); have n5_ := Aside0.mk ((by rw [hg]; exact (below_size (by repeat (first | (with_reducible first | exact HB.out | apply below_alloc | apply pw_below_drewN | apply below_drew1) | exact HB.out))) : w.heap.size ≤ gb364)); have n6_ := Aside0.mk ((by rw [hg]; exact (below_size (by repeat (first | (with_reducible first | exact HB.out | apply below_alloc | apply pw_below_drewN | apply below_drew1) | exact HB.out))) : w.heap.size ≤ gb364)); clear HO357; clear HO360; clear HO363; clear HB; have HO357 := n0_; have HO360 := n1_; have HO363 := n2_; have HB := n3_; have BK364 := n4_; have GW364 := n5_; have GE364 := n6_; clear n0_ n1_ n2_ n3_ n4_ n5_ n6_; clear hb hbox hg; have hcz88_0 : w87.cell? ⟨gb364, 0, none⟩ = some (.int .i64 0) := (blk_cell BK364.out 0).trans rfl; have hcz88_1 : w87.cell? ⟨gb364, 1, none⟩ = some (.int .i64 0) := (blk_cell BK364.out 1).trans rfl; have hcz88_2 : w87.cell? ⟨gb364, 2, none⟩ = some (.string (⟨#[]⟩ : ByteArray)) := (blk_cell BK364.out 2).trans rfl; have hcz88_3 : w87.cell? ⟨gb364, 3, none⟩ = some (.slice none 0 0) := (blk_cell BK364.out 3).trans rfl; have hcz88_4 : w87.cell? ⟨gb364, 4, none⟩ = some (.slice none 0 0) := (blk_cell BK364.out 4).trans rfl; have hcz88_5 : w87.cell? ⟨gb364, 5, none⟩ = some (.slice none 0 0) := (blk_cell BK364.out 5).trans rfl; have hfz88_0 := blk_frozen BK364.out 0; have hfz88_1 := blk_frozen BK364.out 1; have hfz88_2 := blk_frozen BK364.out 2; have hfz88_3 := blk_frozen BK364.out 3; have hfz88_4 := blk_frozen BK364.out 4; have hfz88_5 := blk_frozen BK364.out 5; obtain ⟨Ao89, co89, eo89⟩ := Kd.R_slice HO357.out; subst eo89; obtain ⟨Ao90, co90, eo90⟩ := Kd.N_slice HO360.out; subst eo90; obtain ⟨Ao91, co91, eo91⟩ := Kd.N_slice HO363.out; subst eo91) | ((with_reducible refine gate_dst (N := 116) rfl ?_); (try (refine gate_guard (by rfl) ?_; dsimp only)); refine Kd.R_lit Kd.string _ 9 ?hg (N := 116) ?hd (xs := ([a3] : List ByteArray)) (inner := [.string a3]) (ok := fun _ => True) (okp := fun _ => True) ?hr ?hp (fun _ hk => hk) trivial (Below.refl _ _) (Nat.le_refl _) (by simp) ?_; (case hd => rfl); (case hg => rfl); (case hr => first | (go_simp; done) | (go_simp; rfl)); (case hp => exact (Reps.one (show Kd.M Kd.string _ _ _ a3 [.string a3] from rfl) (Reps.none _ _))); intro v366 w92 ho93 hb hg_ hnew_; clear hg_ hnew_; (first | rw [← Ny365.out] at ho93 | (simp only [Int.reduceToNat] at ho93; rw [← Ny365.out] at ho93)); have n0_ := Aside0.mk (Kd.R_elder' (by (with_reducible repeat (first | apply Kd.R_alloc | apply Kd.R_drewN | apply Kd.R_drew)); exact (Kd.R_mono (Kd.R_far (p := ⟨gb364, 5, none⟩) (Kd.R_far (p := ⟨gb364, 4, none⟩) (Kd.R_far (p := ⟨gb364, 3, none⟩) (Kd.R_far (p := ⟨gb364, 2, none⟩) (Kd.R_far (p := ⟨gb364, 1, none⟩) (Kd.R_far (p := ⟨gb364, 0, none⟩) (Kd.R_types HO357.out BK364.out (by decide)) (fun _ hk => hk.2) (.int .i64 t352)) (fun _ hk => hk.2) (.int .i64 t353)) (fun _ hk => hk.2) (.string t354)) (fun _ hk => hk.2) (.slice Ao89 t355.length co89)) (fun _ hk => hk.2) (.slice Ao90 t358.length co90)) (fun _ hk => hk.2) (.slice Ao91 t361.length co91)) (fun _ h_ => h_.1))) (Kd.R_base ho93) hb); have n1_ := Aside0.mk (Kd.N_elder' (by (with_reducible repeat (first | apply Kd.N_alloc | apply Kd.N_drewN | apply Kd.N_drew)); exact (Kd.N_mono (Kd.N_far (p := ⟨gb364, 5, none⟩) (Kd.N_far (p := ⟨gb364, 4, none⟩) (Kd.N_far (p := ⟨gb364, 3, none⟩) (Kd.N_far (p := ⟨gb364, 2, none⟩) (Kd.N_far (p := ⟨gb364, 1, none⟩) (Kd.N_far (p := ⟨gb364, 0, none⟩) (Kd.N_mono HO360.out (fun k_ hk => (⟨hk, hk.2⟩ : _ ∧ k_ ≠ gb364))) (fun _ hk => hk.2) (.int .i64 t352)) (fun _ hk => hk.2) (.int .i64 t353)) (fun _ hk => hk.2) (.string t354)) (fun _ hk => hk.2) (.slice Ao89 t355.length co89)) (fun _ hk => hk.2) (.slice Ao90 t358.length co90)) (fun _ hk => hk.2) (.slice Ao91 t361.length co91)) (fun _ h_ => h_.1))) (Kd.R_base ho93) hb); have n2_ := Aside0.mk (Kd.N_elder' (by (with_reducible repeat (first | apply Kd.N_alloc | apply Kd.N_drewN | apply Kd.N_drew)); exact (Kd.N_mono (Kd.N_far (p := ⟨gb364, 5, none⟩) (Kd.N_far (p := ⟨gb364, 4, none⟩) (Kd.N_far (p := ⟨gb364, 3, none⟩) (Kd.N_far (p := ⟨gb364, 2, none⟩) (Kd.N_far (p := ⟨gb364, 1, none⟩) (Kd.N_far (p := ⟨gb364, 0, none⟩) (Kd.N_mono HO363.out (fun k_ hk => (⟨hk, hk.2⟩ : _ ∧ k_ ≠ gb364))) (fun _ hk => hk.2) (.int .i64 t352)) (fun _ hk => hk.2) (.int .i64 t353)) (fun _ hk => hk.2) (.string t354)) (fun _ hk => hk.2) (.slice Ao89 t355.length co89)) (fun _ hk => hk.2) (.slice Ao90 t358.length co90)) (fun _ hk => hk.2) (.slice Ao91 t361.length co91)) (fun _ h_ => h_.1))) (Kd.R_base ho93) hb); have n3_ := Aside0.mk (Kd.R_lower (Kd.R_new' ho93 (Kd.R_lt (by (with_reducible repeat (first | apply Kd.R_alloc | apply Kd.R_drewN | apply Kd.R_drew)); exact (Kd.R_mono (Kd.R_far (p := ⟨gb364, 5, none⟩) (Kd.R_far (p := ⟨gb364, 4, none⟩) (Kd.R_far (p := ⟨gb364, 3, none⟩) (Kd.R_far (p := ⟨gb364, 2, none⟩) (Kd.R_far (p := ⟨gb364, 1, none⟩) (Kd.R_far (p := ⟨gb364, 0, none⟩) (Kd.R_types HO357.out BK364.out (by decide)) (fun _ hk => hk.2) (.int .i64 t352)) (fun _ hk => hk.2) (.int .i64 t353)) (fun _ hk => hk.2) (.string t354)) (fun _ hk => hk.2) (.slice Ao89 t355.length co89)) (fun _ hk => hk.2) (.slice Ao90 t358.length co90)) (fun _ hk => hk.2) (.slice Ao91 t361.length co91)) (fun _ h_ => h_.1))))) (below_size (by repeat (first | (with_reducible first | exact HB.out | apply below_alloc | apply pw_below_drewN | apply below_drew1 | refine below_set ?_ GE364.out) | exact HB.out)))); have n4_ := Aside0.mk (blk_below (g := gb364) (o := .cells #[.int .i64 t352, .int .i64 t353, .string t354, .slice Ao89 t355.length co89, .slice Ao90 t358.length co90, .slice Ao91 t361.length co91] 32 (0, 0)) (by (with_reducible repeat (first | refine blk_drewN ?_ _ | refine blk_drew ?_ | refine blk_alloc ?_ _)); refine blk_put (cs := #[.int .i64 t352, .int .i64 t353, .string t354, .slice Ao89 t355.length co89, .slice Ao90 t358.length co90, .slice none 0 0]) ?_ 5 _ rfl; (with_reducible repeat (first | refine blk_drewN ?_ _ | refine blk_drew ?_ | refine blk_alloc ?_ _)); refine blk_put (cs := #[.int .i64 t352, .int .i64 t353, .string t354, .slice Ao89 t355.length co89, .slice none 0 0, .slice none 0 0]) ?_ 4 _ rfl; (with_reducible repeat (first | refine blk_drewN ?_ _ | refine blk_drew ?_ | refine blk_alloc ?_ _)); refine blk_put (cs := #[.int .i64 t352, .int .i64 t353, .string t354, .slice none 0 0, .slice none 0 0, .slice none 0 0]) ?_ 3 _ rfl; (with_reducible repeat (first | refine blk_drewN ?_ _ | refine blk_drew ?_ | refine blk_alloc ?_ _)); refine blk_put (cs := #[.int .i64 t352, .int .i64 t353, .string (⟨#[]⟩ : ByteArray), .slice none 0 0, .slice none 0 0, .slice none 0 0]) ?_ 2 _ rfl; (with_reducible repeat (first | refine blk_drewN ?_ _ | refine blk_drew ?_ | refine blk_alloc ?_ _)); refine blk_put (cs := #[.int .i64 t352, .int .i64 0, .string (⟨#[]⟩ : ByteArray), .slice none 0 0, .slice none 0 0, .slice none 0 0]) ?_ 1 _ rfl; (with_reducible repeat (first | refine blk_drewN ?_ _ | refine blk_drew ?_ | refine blk_alloc ?_ _)); refine blk_put (cs := #[.int .i64 0, .int .i64 0, .string (⟨#[]⟩ : ByteArray), .slice none 0 0, .slice none 0 0, .slice none 0 0]) ?_ 0 _ rfl; (with_reducible repeat (first | refine blk_drewN ?_ _ | refine blk_drew ?_ | refine blk_alloc ?_ _)); exact BK364.out) hb); have n5_ := Aside0.mk (below_step (by repeat (first | (with_reducible first | exact HB.out | apply below_alloc | apply pw_below_drewN | apply below_drew1 | refine below_set ?_ GE364.out) | exact HB.out)) hb); clear HO357; clear HO360; clear HO363; clear BK364; clear HB; have HO357 := n0_; have HO360 := n1_; have HO363 := n2_; have HO367 := n3_; have BK364 := n4_; have HB := n5_; clear n0_ n1_ n2_ n3_ n4_ n5_; clear hb ho93; obtain ⟨Ao94, co94, eo94⟩ := Kd.R_slice HO367.out; subst eo94) | ((with_reducible refine gate_dst (N := 118) rfl ?_); (try (refine gate_guard (by rfl) ?_; dsimp only)); refine Kd.N_lit k32 _ 32 ?hg (N' := 118) ?hd (xs := ([(⟨8, 0, a2, y365, ([] : List (S57)), ([] : List (S32))⟩ : S32)] : List (S32))) (inner := [.int .i64 8, .int .i64 0, .string a2, .slice Ao94 y365.length co94, .slice none 0 0, .slice none 0 0]) (ok := (fun k_ => some k_ ≠ (.slice Ao89 t355.length co89 : Value).ownBlock ∧ some k_ ≠ (.slice Ao90 t358.length co90 : Value).ownBlock ∧ some k_ ≠ (.slice Ao91 t361.length co91 : Value).ownBlock ∧ k_ ≠ gb364)) (okp := (fun k_ => some k_ ≠ (.slice Ao89 t355.length co89 : Value).ownBlock ∧ some k_ ≠ (.slice Ao90 t358.length co90 : Value).ownBlock ∧ some k_ ≠ (.slice Ao91 t361.length co91 : Value).ownBlock ∧ k_ ≠ gb364)) ?hr ?hp (fun _ hk => hk) ((show ∀ k_, w92.heap.size ≤ k_ → (fun k_ => some k_ ≠ (.slice Ao89 t355.length co89 : Value).ownBlock ∧ some k_ ≠ (.slice Ao90 t358.length co90 : Value).ownBlock ∧ some k_ ≠ (.slice Ao91 t361.length co91 : Value).ownBlock ∧ k_ ≠ gb364) k_ from fun k_ hk => ⟨Kd.fresh' (Kd.R_lt (by (with_reducible repeat (first | apply Kd.R_alloc | apply Kd.R_drewN | apply Kd.R_drew)); exact HO357.out)) k_ hk, Kd.fresh' (Kd.N_lt (by (with_reducible repeat (first | apply Kd.N_alloc | apply Kd.N_drewN | apply Kd.N_drew)); exact HO360.out)) k_ hk, Kd.fresh' (Kd.N_lt (by (with_reducible repeat (first | apply Kd.N_alloc | apply Kd.N_drewN | apply Kd.N_drew)); exact HO363.out)) k_ hk, Kd.freshB (g := gb364) (o := .cells #[.int .i64 t352, .int .i64 t353, .string t354, .slice Ao89 t355.length co89, .slice Ao90 t358.length co90, .slice Ao91 t361.length co91] 32 (0, 0)) (by (with_reducible repeat (first | refine blk_drewN ?_ _ | refine blk_drew ?_ | refine blk_alloc ?_ _)); exact BK364.out) k_ hk⟩) _ (Nat.le_refl _)) (Below.refl _ _) (Nat.le_refl _) (by simp) ?_; (case hd => rfl); (case hg => rfl); (case hr => first | (go_simp; done) | (go_simp; rfl)); (case hp => exact (Reps.c6 (show Kd.FK k32 _ _ (⟨8, 0, a2, y365, ([] : List (S57)), ([] : List (S32))⟩ : S32) [.int .i64 8, .int .i64 0, .string a2, .slice Ao94 y365.length co94, .slice none 0 0, .slice none 0 0] from (k32_mkF _ _ (⟨8, 0, a2, y365, ([] : List (S57)), ([] : List (S32))⟩ : S32) (Kd.R_reads' (Kd.R_mono (ok' := (fun k_ => some k_ ≠ (.slice Ao89 t355.length co89 : Value).ownBlock ∧ some k_ ≠ (.slice Ao90 t358.length co90 : Value).ownBlock ∧ some k_ ≠ (.slice Ao91 t361.length co91 : Value).ownBlock ∧ k_ ≠ gb364)) (Kd.R_types (Kd.R_apart' (Kd.R_apart' (HO367.out) (Kd.N_typed HO360.out) (by decide)) (Kd.N_typed HO363.out) (by decide)) BK364.out (by decide)) (fun k_ hk => ⟨hk.1.1.1.2, ⟨hk.1.1.2, ⟨hk.1.2, hk.2⟩⟩⟩))).2.1 (Kd.R_F (Kd.R_mono (ok' := (fun k_ => some k_ ≠ (.slice Ao89 t355.length co89 : Value).ownBlock ∧ some k_ ≠ (.slice Ao90 t358.length co90 : Value).ownBlock ∧ some k_ ≠ (.slice Ao91 t361.length co91 : Value).ownBlock ∧ k_ ≠ gb364)) (Kd.R_types (Kd.R_apart' (Kd.R_apart' (HO367.out) (Kd.N_typed HO360.out) (by decide)) (Kd.N_typed HO363.out) (by decide)) BK364.out (by decide)) (fun k_ hk => ⟨hk.1.1.1.2, ⟨hk.1.1.2, ⟨hk.1.2, hk.2⟩⟩⟩))) (Nat.le_refl _) (Kd.F_nil _ _ _) (Nat.le_refl _) (Kd.F_nil _ _ _))) (Reps.none _ _))); intro v369 w95 ho96 hb hg_ hnew_; clear hg_ hnew_; (first | rw [← Ny368.out] at ho96 | (simp only [Int.reduceToNat] at ho96; rw [← Ny368.out] at ho96)); have n0_ := Aside0.mk (Kd.R_below (by (with_reducible repeat (first | apply Kd.R_alloc | apply Kd.R_drewN | apply Kd.R_drew)); exact HO357.out) hb); have n1_ := Aside0.mk (Kd.N_elder' (by (with_reducible repeat (first | apply Kd.N_alloc | apply Kd.N_drewN | apply Kd.N_drew)); exact HO360.out) (Kd.N_base ho96) hb); have n2_ := Aside0.mk (Kd.N_elder' (by (with_reducible repeat (first | apply Kd.N_alloc | apply Kd.N_drewN | apply Kd.N_drew)); exact HO363.out) (Kd.N_base ho96) hb); have n3_ := Aside0.mk (Kd.N_lower ho96 (below_size (by repeat (first | (with_reducible first | exact HB.out | apply below_alloc | apply pw_below_drewN | apply below_drew1 | refine below_set ?_ GE364.out) | exact HB.out)))); have n4_ := Aside0.mk (blk_below (g := gb364) (o := .cells #[.int .i64 t352, .int .i64 t353, .string t354, .slice Ao89 t355.length co89, .slice Ao90 t358.length co90, .slice Ao91 t361.length co91] 32 (0, 0)) (by (with_reducible repeat (first | refine blk_drewN ?_ _ | refine blk_drew ?_ | refine blk_alloc ?_ _)); exact BK364.out) hb); have n5_ := Aside0.mk (below_step (by repeat (first | (with_reducible first | exact HB.out | apply below_alloc | apply pw_below_drewN | apply below_drew1 | refine below_set ?_ GE364.out) | exact HB.out)) hb); clear HO357; clear HO360; clear HO363; clear BK364; clear HB; clear HO367; have HO357 := n0_; have HO360 := n1_; have HO363 := n2_; have HO370 := n3_; have BK364 := n4_; have HB := n5_; clear n0_ n1_ n2_ n3_ n4_ n5_; clear hb ho96; obtain ⟨Ao97, co97, eo97⟩ := Kd.N_slice HO370.out; subst eo97) | ((with_reducible refine gate_callee (f := 12) rfl ?_); refine goesL_ (some 119) rfl rfl Tryd.func12 (by kernel_rfl) rfl #[.slice Ao97 y368.length co97] rfl (by (try simp only [List.map_toArray, List.map_cons, List.map_nil]); first | done | rfl | (simp only [List.length_drop, List.length_take]; rfl)) ?_; (with_reducible refine (emendationref10_Right.calls kj44 _ _ y368 true _ ?side1 ?side2 A52.out).mono ?_); (case side1 => repeat (first | exact (Kd.N_reads' HO370.out).2.2 | (with_reducible refine Kd.C_alloc ?_ _) | (with_reducible refine Kd.C_drewN ?_ _) | (with_reducible refine Kd.C_drew ?_))); (case side2 => exact (Kd.N_reads' HO370.out).2.1); rintro e w98 ⟨rfl, hb⟩; refine ⟨_, rfl, ?_⟩; have n0_ := Aside0.mk (Kd.R_below (by (with_reducible repeat (first | apply Kd.R_alloc | apply Kd.R_drewN | apply Kd.R_drew)); exact HO357.out) hb); have n1_ := Aside0.mk (Kd.N_below (by (with_reducible repeat (first | apply Kd.N_alloc | apply Kd.N_drewN | apply Kd.N_drew)); exact HO360.out) hb); have n2_ := Aside0.mk (Kd.N_below (by (with_reducible repeat (first | apply Kd.N_alloc | apply Kd.N_drewN | apply Kd.N_drew)); exact HO363.out) hb); have n3_ := Aside0.mk (Kd.N_below (by (with_reducible repeat (first | apply Kd.N_alloc | apply Kd.N_drewN | apply Kd.N_drew)); exact HO370.out) hb); have n4_ := Aside0.mk (blk_below (g := gb364) (o := .cells #[.int .i64 t352, .int .i64 t353, .string t354, .slice Ao89 t355.length co89, .slice Ao90 t358.length co90, .slice Ao91 t361.length co91] 32 (0, 0)) (by (with_reducible repeat (first | refine blk_drewN ?_ _ | refine blk_drew ?_ | refine blk_alloc ?_ _)); exact BK364.out) hb); have n5_ := Aside0.mk (below_step (by repeat (first | (with_reducible first | exact HB.out | apply below_alloc | apply pw_below_drewN | apply below_drew1 | refine below_set ?_ GE364.out) | exact HB.out)) hb); clear HO357; clear HO360; clear HO363; clear HO370; clear BK364; clear HB; have HO357 := n0_; have HO360 := n1_; have HO363 := n2_; have HO370 := n3_; have BK364 := n4_; have HB := n5_; clear n0_ n1_ n2_ n3_ n4_ n5_; (try clear hb); (try clear hb2); (try clear hk); (try clear hi); have hcz99_0 : w98.cell? ⟨gb364, 0, none⟩ = some (.int .i64 t352) := (blk_cell BK364.out 0).trans rfl; have hcz99_1 : w98.cell? ⟨gb364, 1, none⟩ = some (.int .i64 t353) := (blk_cell BK364.out 1).trans rfl; have hcz99_2 : w98.cell? ⟨gb364, 2, none⟩ = some (.string t354) := (blk_cell BK364.out 2).trans rfl; have hcz99_3 : w98.cell? ⟨gb364, 3, none⟩ = some (.slice Ao89 t355.length co89) := (blk_cell BK364.out 3).trans rfl; have hcz99_4 : w98.cell? ⟨gb364, 4, none⟩ = some (.slice Ao90 t358.length co90) := (blk_cell BK364.out 4).trans rfl; have hcz99_5 : w98.cell? ⟨gb364, 5, none⟩ = some (.slice Ao91 t361.length co91) := (blk_cell BK364.out 5).trans rfl; have hfz99_0 := blk_frozen BK364.out 0; have hfz99_1 := blk_frozen BK364.out 1; have hfz99_2 := blk_frozen BK364.out 2; have hfz99_3 := blk_frozen BK364.out 3; have hfz99_4 := blk_frozen BK364.out 4; have hfz99_5 := blk_frozen BK364.out 5))
                         go_ret
                         exact ⟨by first | rfl | (simp [errW_none, errW_some] <;> rfl) | (simp [*, errW_none, errW_some] <;> rfl), by repeat (first | (with_reducible first | exact HB.out | apply below_alloc | apply pw_below_drewN | apply below_drew1 | refine below_set ?_ GE364.out) | exact HB.out)⟩
                       ·
                        replace c54 := Bool.eq_false_iff.mpr c54
                        subst c54
                        have H1 : (some true) = some r := by rw [if_neg (show ¬ (false = true) by decide)] at H; exact H
                        clear H
                        have H := H1
                        clear H1
                        obtain rfl := Option.some.inj H
                        go_wp2_with (first | ((with_reducible refine gate_callee (f := 11) rfl ?_); refine goesL_ (some 113) rfl rfl Tryd.func11 (by kernel_rfl) rfl #[.string ((((⟨#[91]⟩ : ByteArray) ++ a2) ++ (⟨#[93, 58, 32]⟩ : ByteArray)) ++ a3)] rfl (by (try simp only [List.map_toArray, List.map_cons, List.map_nil]); first | done | rfl | (simp only [List.length_drop, List.length_take]; rfl)) ?_; (with_reducible refine (kind_Define.calls kj44 ((((⟨#[91]⟩ : ByteArray) ++ a2) ++ (⟨#[93, 58, 32]⟩ : ByteArray)) ++ a3) t352 t353 t354 t355 t358 t361 _ ?side1 A51.out).mono ?_); (case side1 => first | exact HT.out | exact Tabs.at HT.out (by repeat (first | (with_reducible first | exact HB.out | apply below_alloc | apply pw_below_drewN | apply below_drew1) | exact HB.out))); rintro e w100 ⟨v356, v359, v362, rfl, ho0, ho1, ho2, hb⟩; refine ⟨_, rfl, ?_⟩; have n0_ := Aside0.mk (Kd.R_lower ho0 (below_size (by repeat (first | (with_reducible first | exact HB.out | apply below_alloc | apply pw_below_drewN | apply below_drew1) | exact HB.out)))); have n1_ := Aside0.mk (Kd.N_lower (Kd.N_mono (ok' := fun k_ => some k_ ≠ (v356 : Value).ownBlock ∧ some k_ ≠ (v362 : Value).ownBlock) (Kd.R_N (Kd.R_bound (Kd.R_apart' (Kd.R_apart' ho1 (Kd.R_typed ho0) (by decide)) (Kd.R_typed ho2) (by decide)))) (fun k_ hk_ => ⟨hk_.1.1.2, hk_.1.2⟩)) (below_size (by repeat (first | (with_reducible first | exact HB.out | apply below_alloc | apply pw_below_drewN | apply below_drew1) | exact HB.out)))); have n2_ := Aside0.mk (Kd.N_lower (Kd.N_mono (ok' := fun k_ => some k_ ≠ (v356 : Value).ownBlock ∧ some k_ ≠ (v359 : Value).ownBlock) (Kd.R_N (Kd.R_bound ho2)) (fun k_ hk_ => ⟨hk_.1.1, hk_.1.2⟩)) (below_size (by repeat (first | (with_reducible first | exact HB.out | apply below_alloc | apply pw_below_drewN | apply below_drew1) | exact HB.out)))); have n3_ := Aside0.mk (below_step (by repeat (first | (with_reducible first | exact HB.out | apply below_alloc | apply pw_below_drewN | apply below_drew1) | exact HB.out)) hb); clear HB; have HO357 := n0_; have HO360 := n1_; have HO363 := n2_; have HB := n3_; clear n0_ n1_ n2_ n3_; (try clear hb); (try clear hb2); (try clear hk); (try clear hi); (try clear ho0); (try clear ho1); (try clear ho2)) | ((with_reducible refine gate_dst (N := 13) rfl ?_); (try (refine gate_guard (by rfl) ?_; dsimp only)); refine box_event ?hg (N := 13) ?hd (cs := #[.int .i64 0, .int .i64 0, .string (⟨#[]⟩ : ByteArray), .slice none 0 0, .slice none 0 0, .slice none 0 0]) (t := 32) ?hr ?_; (case hd => rfl); (case hg => rfl); (case hr => first | (go_simp; done) | (go_simp; rfl)); intro gb364 hg w101 hbox hb; have n0_ := Aside0.mk (Kd.R_below (by (with_reducible repeat (first | apply Kd.R_alloc | apply Kd.R_drewN | apply Kd.R_drew)); exact HO357.out) hb); have n1_ := Aside0.mk (Kd.N_below (Kd.N_elderB (by (with_reducible repeat (first | apply Kd.N_alloc | apply Kd.N_drewN | apply Kd.N_drew)); exact HO360.out) gb364 (Nat.le_of_eq hg.symm)) hb); have n2_ := Aside0.mk (Kd.N_below (Kd.N_elderB (by (with_reducible repeat (first | apply Kd.N_alloc | apply Kd.N_drewN | apply Kd.N_drew)); exact HO363.out) gb364 (Nat.le_of_eq hg.symm)) hb); have n3_ := Aside0.mk (below_step (by repeat (first | (with_reducible first | exact HB.out | apply below_alloc | apply pw_below_drewN | apply below_drew1) | exact HB.out)) hb); have n4_ := Aside0.mk (hbox); have n5_ := Aside0.mk ((by rw [hg]; exact (below_size (by repeat (first | (with_reducible first | exact HB.out | apply below_alloc | apply pw_below_drewN | apply below_drew1) | exact HB.out))) : w.heap.size ≤ gb364)); have n6_ := Aside0.mk ((by rw [hg]; exact (below_size (by repeat (first | (with_reducible first | exact HB.out | apply below_alloc | apply pw_below_drewN | apply below_drew1) | exact HB.out))) : w.heap.size ≤ gb364)); clear HO357; clear HO360; clear HO363; clear HB; have HO357 := n0_; have HO360 := n1_; have HO363 := n2_; have HB := n3_; have BK364 := n4_; have GW364 := n5_; have GE364 := n6_; clear n0_ n1_ n2_ n3_ n4_ n5_ n6_; clear hb hbox hg; have hcz102_0 : w101.cell? ⟨gb364, 0, none⟩ = some (.int .i64 0) := (blk_cell BK364.out 0).trans rfl; have hcz102_1 : w101.cell? ⟨gb364, 1, none⟩ = some (.int .i64 0) := (blk_cell BK364.out 1).trans rfl; have hcz102_2 : w101.cell? ⟨gb364, 2, none⟩ = some (.string (⟨#[]⟩ : ByteArray)) := (blk_cell BK364.out 2).trans rfl; have hcz102_3 : w101.cell? ⟨gb364, 3, none⟩ = some (.slice none 0 0) := (blk_cell BK364.out 3).trans rfl; have hcz102_4 : w101.cell? ⟨gb364, 4, none⟩ = some (.slice none 0 0) := (blk_cell BK364.out 4).trans rfl; have hcz102_5 : w101.cell? ⟨gb364, 5, none⟩ = some (.slice none 0 0) := (blk_cell BK364.out 5).trans rfl; have hfz102_0 := blk_frozen BK364.out 0; have hfz102_1 := blk_frozen BK364.out 1; have hfz102_2 := blk_frozen BK364.out 2; have hfz102_3 := blk_frozen BK364.out 3; have hfz102_4 := blk_frozen BK364.out 4; have hfz102_5 := blk_frozen BK364.out 5; obtain ⟨Ao103, co103, eo103⟩ := Kd.R_slice HO357.out; subst eo103; obtain ⟨Ao104, co104, eo104⟩ := Kd.N_slice HO360.out; subst eo104; obtain ⟨Ao105, co105, eo105⟩ := Kd.N_slice HO363.out; subst eo105) | ((with_reducible refine gate_dst (N := 116) rfl ?_); (try (refine gate_guard (by rfl) ?_; dsimp only)); refine Kd.R_lit Kd.string _ 9 ?hg (N := 116) ?hd (xs := ([a3] : List ByteArray)) (inner := [.string a3]) (ok := fun _ => True) (okp := fun _ => True) ?hr ?hp (fun _ hk => hk) trivial (Below.refl _ _) (Nat.le_refl _) (by simp) ?_; (case hd => rfl); (case hg => rfl); (case hr => first | (go_simp; done) | (go_simp; rfl)); (case hp => exact (Reps.one (show Kd.M Kd.string _ _ _ a3 [.string a3] from rfl) (Reps.none _ _))); intro v366 w106 ho107 hb hg_ hnew_; clear hg_ hnew_; (first | rw [← Ny365.out] at ho107 | (simp only [Int.reduceToNat] at ho107; rw [← Ny365.out] at ho107)); have n0_ := Aside0.mk (Kd.R_elder' (by (with_reducible repeat (first | apply Kd.R_alloc | apply Kd.R_drewN | apply Kd.R_drew)); exact (Kd.R_mono (Kd.R_far (p := ⟨gb364, 5, none⟩) (Kd.R_far (p := ⟨gb364, 4, none⟩) (Kd.R_far (p := ⟨gb364, 3, none⟩) (Kd.R_far (p := ⟨gb364, 2, none⟩) (Kd.R_far (p := ⟨gb364, 1, none⟩) (Kd.R_far (p := ⟨gb364, 0, none⟩) (Kd.R_types HO357.out BK364.out (by decide)) (fun _ hk => hk.2) (.int .i64 t352)) (fun _ hk => hk.2) (.int .i64 t353)) (fun _ hk => hk.2) (.string t354)) (fun _ hk => hk.2) (.slice Ao103 t355.length co103)) (fun _ hk => hk.2) (.slice Ao104 t358.length co104)) (fun _ hk => hk.2) (.slice Ao105 t361.length co105)) (fun _ h_ => h_.1))) (Kd.R_base ho107) hb); have n1_ := Aside0.mk (Kd.N_elder' (by (with_reducible repeat (first | apply Kd.N_alloc | apply Kd.N_drewN | apply Kd.N_drew)); exact (Kd.N_mono (Kd.N_far (p := ⟨gb364, 5, none⟩) (Kd.N_far (p := ⟨gb364, 4, none⟩) (Kd.N_far (p := ⟨gb364, 3, none⟩) (Kd.N_far (p := ⟨gb364, 2, none⟩) (Kd.N_far (p := ⟨gb364, 1, none⟩) (Kd.N_far (p := ⟨gb364, 0, none⟩) (Kd.N_mono HO360.out (fun k_ hk => (⟨hk, hk.2⟩ : _ ∧ k_ ≠ gb364))) (fun _ hk => hk.2) (.int .i64 t352)) (fun _ hk => hk.2) (.int .i64 t353)) (fun _ hk => hk.2) (.string t354)) (fun _ hk => hk.2) (.slice Ao103 t355.length co103)) (fun _ hk => hk.2) (.slice Ao104 t358.length co104)) (fun _ hk => hk.2) (.slice Ao105 t361.length co105)) (fun _ h_ => h_.1))) (Kd.R_base ho107) hb); have n2_ := Aside0.mk (Kd.N_elder' (by (with_reducible repeat (first | apply Kd.N_alloc | apply Kd.N_drewN | apply Kd.N_drew)); exact (Kd.N_mono (Kd.N_far (p := ⟨gb364, 5, none⟩) (Kd.N_far (p := ⟨gb364, 4, none⟩) (Kd.N_far (p := ⟨gb364, 3, none⟩) (Kd.N_far (p := ⟨gb364, 2, none⟩) (Kd.N_far (p := ⟨gb364, 1, none⟩) (Kd.N_far (p := ⟨gb364, 0, none⟩) (Kd.N_mono HO363.out (fun k_ hk => (⟨hk, hk.2⟩ : _ ∧ k_ ≠ gb364))) (fun _ hk => hk.2) (.int .i64 t352)) (fun _ hk => hk.2) (.int .i64 t353)) (fun _ hk => hk.2) (.string t354)) (fun _ hk => hk.2) (.slice Ao103 t355.length co103)) (fun _ hk => hk.2) (.slice Ao104 t358.length co104)) (fun _ hk => hk.2) (.slice Ao105 t361.length co105)) (fun _ h_ => h_.1))) (Kd.R_base ho107) hb); have n3_ := Aside0.mk (Kd.R_lower (Kd.R_new' ho107 (Kd.R_lt (by (with_reducible repeat (first | apply Kd.R_alloc | apply Kd.R_drewN | apply Kd.R_drew)); exact (Kd.R_mono (Kd.R_far (p := ⟨gb364, 5, none⟩) (Kd.R_far (p := ⟨gb364, 4, none⟩) (Kd.R_far (p := ⟨gb364, 3, none⟩) (Kd.R_far (p := ⟨gb364, 2, none⟩) (Kd.R_far (p := ⟨gb364, 1, none⟩) (Kd.R_far (p := ⟨gb364, 0, none⟩) (Kd.R_types HO357.out BK364.out (by decide)) (fun _ hk => hk.2) (.int .i64 t352)) (fun _ hk => hk.2) (.int .i64 t353)) (fun _ hk => hk.2) (.string t354)) (fun _ hk => hk.2) (.slice Ao103 t355.length co103)) (fun _ hk => hk.2) (.slice Ao104 t358.length co104)) (fun _ hk => hk.2) (.slice Ao105 t361.length co105)) (fun _ h_ => h_.1))))) (below_size (by repeat (first | (with_reducible first | exact HB.out | apply below_alloc | apply pw_below_drewN | apply below_drew1 | refine below_set ?_ GE364.out) | exact HB.out)))); have n4_ := Aside0.mk (blk_below (g := gb364) (o := .cells #[.int .i64 t352, .int .i64 t353, .string t354, .slice Ao103 t355.length co103, .slice Ao104 t358.length co104, .slice Ao105 t361.length co105] 32 (0, 0)) (by (with_reducible repeat (first | refine blk_drewN ?_ _ | refine blk_drew ?_ | refine blk_alloc ?_ _)); refine blk_put (cs := #[.int .i64 t352, .int .i64 t353, .string t354, .slice Ao103 t355.length co103, .slice Ao104 t358.length co104, .slice none 0 0]) ?_ 5 _ rfl; (with_reducible repeat (first | refine blk_drewN ?_ _ | refine blk_drew ?_ | refine blk_alloc ?_ _)); refine blk_put (cs := #[.int .i64 t352, .int .i64 t353, .string t354, .slice Ao103 t355.length co103, .slice none 0 0, .slice none 0 0]) ?_ 4 _ rfl; (with_reducible repeat (first | refine blk_drewN ?_ _ | refine blk_drew ?_ | refine blk_alloc ?_ _)); refine blk_put (cs := #[.int .i64 t352, .int .i64 t353, .string t354, .slice none 0 0, .slice none 0 0, .slice none 0 0]) ?_ 3 _ rfl; (with_reducible repeat (first | refine blk_drewN ?_ _ | refine blk_drew ?_ | refine blk_alloc ?_ _)); refine blk_put (cs := #[.int .i64 t352, .int .i64 t353, .string (⟨#[]⟩ : ByteArray), .slice none 0 0, .slice none 0 0, .slice none 0 0]) ?_ 2 _ rfl; (with_reducible repeat (first | refine blk_drewN ?_ _ | refine blk_drew ?_ | refine blk_alloc ?_ _)); refine blk_put (cs := #[.int .i64 t352, .int .i64 0, .string (⟨#[]⟩ : ByteArray), .slice none 0 0, .slice none 0 0, .slice none 0 0]) ?_ 1 _ rfl; (with_reducible repeat (first | refine blk_drewN ?_ _ | refine blk_drew ?_ | refine blk_alloc ?_ _)); refine blk_put (cs := #[.int .i64 0, .int .i64 0, .string (⟨#[]⟩ : ByteArray), .slice none 0 0, .slice none 0 0, .slice none 0 0]) ?_ 0 _ rfl; (with_reducible repeat (first | refine blk_drewN ?_ _ | refine blk_drew ?_ | refine blk_alloc ?_ _)); exact BK364.out) hb); have n5_ := Aside0.mk (below_step (by repeat (first | (with_reducible first | exact HB.out | apply below_alloc | apply pw_below_drewN | apply below_drew1 | refine below_set ?_ GE364.out) | exact HB.out)) hb); clear HO357; clear HO360; clear HO363; clear BK364; clear HB; have HO357 := n0_; have HO360 := n1_; have HO363 := n2_; have HO367 := n3_; have BK364 := n4_; have HB := n5_; clear n0_ n1_ n2_ n3_ n4_ n5_; clear hb ho107; obtain ⟨Ao108, co108, eo108⟩ := Kd.R_slice HO367.out; subst eo108) | ((with_reducible refine gate_dst (N := 118) rfl ?_); (try (refine gate_guard (by rfl) ?_; dsimp only)); refine Kd.N_lit k32 _ 32 ?hg (N' := 118) ?hd (xs := ([(⟨8, 0, a2, y365, ([] : List (S57)), ([] : List (S32))⟩ : S32)] : List (S32))) (inner := [.int .i64 8, .int .i64 0, .string a2, .slice Ao108 y365.length co108, .slice none 0 0, .slice none 0 0]) (ok := (fun k_ => some k_ ≠ (.slice Ao103 t355.length co103 : Value).ownBlock ∧ some k_ ≠ (.slice Ao104 t358.length co104 : Value).ownBlock ∧ some k_ ≠ (.slice Ao105 t361.length co105 : Value).ownBlock ∧ k_ ≠ gb364)) (okp := (fun k_ => some k_ ≠ (.slice Ao103 t355.length co103 : Value).ownBlock ∧ some k_ ≠ (.slice Ao104 t358.length co104 : Value).ownBlock ∧ some k_ ≠ (.slice Ao105 t361.length co105 : Value).ownBlock ∧ k_ ≠ gb364)) ?hr ?hp (fun _ hk => hk) ((show ∀ k_, w106.heap.size ≤ k_ → (fun k_ => some k_ ≠ (.slice Ao103 t355.length co103 : Value).ownBlock ∧ some k_ ≠ (.slice Ao104 t358.length co104 : Value).ownBlock ∧ some k_ ≠ (.slice Ao105 t361.length co105 : Value).ownBlock ∧ k_ ≠ gb364) k_ from fun k_ hk => ⟨Kd.fresh' (Kd.R_lt (by (with_reducible repeat (first | apply Kd.R_alloc | apply Kd.R_drewN | apply Kd.R_drew)); exact HO357.out)) k_ hk, Kd.fresh' (Kd.N_lt (by (with_reducible repeat (first | apply Kd.N_alloc | apply Kd.N_drewN | apply Kd.N_drew)); exact HO360.out)) k_ hk, Kd.fresh' (Kd.N_lt (by (with_reducible repeat (first | apply Kd.N_alloc | apply Kd.N_drewN | apply Kd.N_drew)); exact HO363.out)) k_ hk, Kd.freshB (g := gb364) (o := .cells #[.int .i64 t352, .int .i64 t353, .string t354, .slice Ao103 t355.length co103, .slice Ao104 t358.length co104, .slice Ao105 t361.length co105] 32 (0, 0)) (by (with_reducible repeat (first | refine blk_drewN ?_ _ | refine blk_drew ?_ | refine blk_alloc ?_ _)); exact BK364.out) k_ hk⟩) _ (Nat.le_refl _)) (Below.refl _ _) (Nat.le_refl _) (by simp) ?_; (case hd => rfl); (case hg => rfl); (case hr => first | (go_simp; done) | (go_simp; rfl)); (case hp => exact (Reps.c6 (show Kd.FK k32 _ _ (⟨8, 0, a2, y365, ([] : List (S57)), ([] : List (S32))⟩ : S32) [.int .i64 8, .int .i64 0, .string a2, .slice Ao108 y365.length co108, .slice none 0 0, .slice none 0 0] from (k32_mkF _ _ (⟨8, 0, a2, y365, ([] : List (S57)), ([] : List (S32))⟩ : S32) (Kd.R_reads' (Kd.R_mono (ok' := (fun k_ => some k_ ≠ (.slice Ao103 t355.length co103 : Value).ownBlock ∧ some k_ ≠ (.slice Ao104 t358.length co104 : Value).ownBlock ∧ some k_ ≠ (.slice Ao105 t361.length co105 : Value).ownBlock ∧ k_ ≠ gb364)) (Kd.R_types (Kd.R_apart' (Kd.R_apart' (HO367.out) (Kd.N_typed HO360.out) (by decide)) (Kd.N_typed HO363.out) (by decide)) BK364.out (by decide)) (fun k_ hk => ⟨hk.1.1.1.2, ⟨hk.1.1.2, ⟨hk.1.2, hk.2⟩⟩⟩))).2.1 (Kd.R_F (Kd.R_mono (ok' := (fun k_ => some k_ ≠ (.slice Ao103 t355.length co103 : Value).ownBlock ∧ some k_ ≠ (.slice Ao104 t358.length co104 : Value).ownBlock ∧ some k_ ≠ (.slice Ao105 t361.length co105 : Value).ownBlock ∧ k_ ≠ gb364)) (Kd.R_types (Kd.R_apart' (Kd.R_apart' (HO367.out) (Kd.N_typed HO360.out) (by decide)) (Kd.N_typed HO363.out) (by decide)) BK364.out (by decide)) (fun k_ hk => ⟨hk.1.1.1.2, ⟨hk.1.1.2, ⟨hk.1.2, hk.2⟩⟩⟩))) (Nat.le_refl _) (Kd.F_nil _ _ _) (Nat.le_refl _) (Kd.F_nil _ _ _))) (Reps.none _ _))); intro v369 w109 ho110 hb hg_ hnew_; clear hg_ hnew_; (first | rw [← Ny368.out] at ho110 | (simp only [Int.reduceToNat] at ho110; rw [← Ny368.out] at ho110)); have n0_ := Aside0.mk (Kd.R_below (by (with_reducible repeat (first | apply Kd.R_alloc | apply Kd.R_drewN | apply Kd.R_drew)); exact HO357.out) hb); have n1_ := Aside0.mk (Kd.N_elder' (by (with_reducible repeat (first | apply Kd.N_alloc | apply Kd.N_drewN | apply Kd.N_drew)); exact HO360.out) (Kd.N_base ho110) hb); have n2_ := Aside0.mk (Kd.N_elder' (by (with_reducible repeat (first | apply Kd.N_alloc | apply Kd.N_drewN | apply Kd.N_drew)); exact HO363.out) (Kd.N_base ho110) hb); have n3_ := Aside0.mk (Kd.N_lower ho110 (below_size (by repeat (first | (with_reducible first | exact HB.out | apply below_alloc | apply pw_below_drewN | apply below_drew1 | refine below_set ?_ GE364.out) | exact HB.out)))); have n4_ := Aside0.mk (blk_below (g := gb364) (o := .cells #[.int .i64 t352, .int .i64 t353, .string t354, .slice Ao103 t355.length co103, .slice Ao104 t358.length co104, .slice Ao105 t361.length co105] 32 (0, 0)) (by (with_reducible repeat (first | refine blk_drewN ?_ _ | refine blk_drew ?_ | refine blk_alloc ?_ _)); exact BK364.out) hb); have n5_ := Aside0.mk (below_step (by repeat (first | (with_reducible first | exact HB.out | apply below_alloc | apply pw_below_drewN | apply below_drew1 | refine below_set ?_ GE364.out) | exact HB.out)) hb); clear HO357; clear HO360; clear HO363; clear BK364; clear HB; clear HO367; have HO357 := n0_; have HO360 := n1_; have HO363 := n2_; have HO370 := n3_; have BK364 := n4_; have HB := n5_; clear n0_ n1_ n2_ n3_ n4_ n5_; clear hb ho110; obtain ⟨Ao111, co111, eo111⟩ := Kd.N_slice HO370.out; subst eo111) | ((with_reducible refine gate_callee (f := 12) rfl ?_); refine goesL_ (some 119) rfl rfl Tryd.func12 (by kernel_rfl) rfl #[.slice Ao111 y368.length co111] rfl (by (try simp only [List.map_toArray, List.map_cons, List.map_nil]); first | done | rfl | (simp only [List.length_drop, List.length_take]; rfl)) ?_; (with_reducible refine (emendationref10_Right.calls kj44 _ _ y368 false _ ?side1 ?side2 A52.out).mono ?_); (case side1 => repeat (first | exact (Kd.N_reads' HO370.out).2.2 | (with_reducible refine Kd.C_alloc ?_ _) | (with_reducible refine Kd.C_drewN ?_ _) | (with_reducible refine Kd.C_drew ?_))); (case side2 => exact (Kd.N_reads' HO370.out).2.1); rintro e w112 ⟨rfl, hb⟩; refine ⟨_, rfl, ?_⟩; have n0_ := Aside0.mk (Kd.R_below (by (with_reducible repeat (first | apply Kd.R_alloc | apply Kd.R_drewN | apply Kd.R_drew)); exact HO357.out) hb); have n1_ := Aside0.mk (Kd.N_below (by (with_reducible repeat (first | apply Kd.N_alloc | apply Kd.N_drewN | apply Kd.N_drew)); exact HO360.out) hb); have n2_ := Aside0.mk (Kd.N_below (by (with_reducible repeat (first | apply Kd.N_alloc | apply Kd.N_drewN | apply Kd.N_drew)); exact HO363.out) hb); have n3_ := Aside0.mk (Kd.N_below (by (with_reducible repeat (first | apply Kd.N_alloc | apply Kd.N_drewN | apply Kd.N_drew)); exact HO370.out) hb); have n4_ := Aside0.mk (blk_below (g := gb364) (o := .cells #[.int .i64 t352, .int .i64 t353, .string t354, .slice Ao103 t355.length co103, .slice Ao104 t358.length co104, .slice Ao105 t361.length co105] 32 (0, 0)) (by (with_reducible repeat (first | refine blk_drewN ?_ _ | refine blk_drew ?_ | refine blk_alloc ?_ _)); exact BK364.out) hb); have n5_ := Aside0.mk (below_step (by repeat (first | (with_reducible first | exact HB.out | apply below_alloc | apply pw_below_drewN | apply below_drew1 | refine below_set ?_ GE364.out) | exact HB.out)) hb); clear HO357; clear HO360; clear HO363; clear HO370; clear BK364; clear HB; have HO357 := n0_; have HO360 := n1_; have HO363 := n2_; have HO370 := n3_; have BK364 := n4_; have HB := n5_; clear n0_ n1_ n2_ n3_ n4_ n5_; (try clear hb); (try clear hb2); (try clear hk); (try clear hi); have hcz113_0 : w112.cell? ⟨gb364, 0, none⟩ = some (.int .i64 t352) := (blk_cell BK364.out 0).trans rfl; have hcz113_1 : w112.cell? ⟨gb364, 1, none⟩ = some (.int .i64 t353) := (blk_cell BK364.out 1).trans rfl; have hcz113_2 : w112.cell? ⟨gb364, 2, none⟩ = some (.string t354) := (blk_cell BK364.out 2).trans rfl; have hcz113_3 : w112.cell? ⟨gb364, 3, none⟩ = some (.slice Ao103 t355.length co103) := (blk_cell BK364.out 3).trans rfl; have hcz113_4 : w112.cell? ⟨gb364, 4, none⟩ = some (.slice Ao104 t358.length co104) := (blk_cell BK364.out 4).trans rfl; have hcz113_5 : w112.cell? ⟨gb364, 5, none⟩ = some (.slice Ao105 t361.length co105) := (blk_cell BK364.out 5).trans rfl; have hfz113_0 := blk_frozen BK364.out 0; have hfz113_1 := blk_frozen BK364.out 1; have hfz113_2 := blk_frozen BK364.out 2; have hfz113_3 := blk_frozen BK364.out 3; have hfz113_4 := blk_frozen BK364.out 4; have hfz113_5 := blk_frozen BK364.out 5))
                        go_ret
                        exact ⟨by first | rfl | (simp [errW_none, errW_some] <;> rfl) | (simp [*, errW_none, errW_some] <;> rfl), by repeat (first | (with_reducible first | exact HB.out | apply below_alloc | apply pw_below_drewN | apply below_drew1 | refine below_set ?_ GE364.out) | exact HB.out)⟩
                      ·
                       rw [if_neg c53] at H
                       have c53b0 : ((t352 == 8) == t371) = false := by simpa using c53
                       (try (have c53b1 : decide ((t352 == 8) = t371) = false := by simpa using c53))
                       (try (have c53b2 : ((t352 == 8) == t371) = false := by simpa using c53))
                       (try (have c53b3 : ¬ ((t352 == 8) = t371) := by simpa using c53))
                       clear c53
                       obtain rfl := Option.some.inj H
                       go_wp2_with (first | ((with_reducible refine gate_callee (f := 11) rfl ?_); refine goesL_ (some 113) rfl rfl Tryd.func11 (by kernel_rfl) rfl #[.string ((((⟨#[91]⟩ : ByteArray) ++ a2) ++ (⟨#[93, 58, 32]⟩ : ByteArray)) ++ a3)] rfl (by (try simp only [List.map_toArray, List.map_cons, List.map_nil]); first | done | rfl | (simp only [List.length_drop, List.length_take]; rfl)) ?_; (with_reducible refine (kind_Define.calls kj44 ((((⟨#[91]⟩ : ByteArray) ++ a2) ++ (⟨#[93, 58, 32]⟩ : ByteArray)) ++ a3) t352 t353 t354 t355 t358 t361 _ ?side1 A51.out).mono ?_); (case side1 => first | exact HT.out | exact Tabs.at HT.out (by repeat (first | (with_reducible first | exact HB.out | apply below_alloc | apply pw_below_drewN | apply below_drew1) | exact HB.out))); rintro e w114 ⟨v356, v359, v362, rfl, ho0, ho1, ho2, hb⟩; refine ⟨_, rfl, ?_⟩; have n0_ := Aside0.mk (Kd.R_lower ho0 (below_size (by repeat (first | (with_reducible first | exact HB.out | apply below_alloc | apply pw_below_drewN | apply below_drew1) | exact HB.out)))); have n1_ := Aside0.mk (Kd.N_lower (Kd.N_mono (ok' := fun k_ => some k_ ≠ (v356 : Value).ownBlock ∧ some k_ ≠ (v362 : Value).ownBlock) (Kd.R_N (Kd.R_bound (Kd.R_apart' (Kd.R_apart' ho1 (Kd.R_typed ho0) (by decide)) (Kd.R_typed ho2) (by decide)))) (fun k_ hk_ => ⟨hk_.1.1.2, hk_.1.2⟩)) (below_size (by repeat (first | (with_reducible first | exact HB.out | apply below_alloc | apply pw_below_drewN | apply below_drew1) | exact HB.out)))); have n2_ := Aside0.mk (Kd.N_lower (Kd.N_mono (ok' := fun k_ => some k_ ≠ (v356 : Value).ownBlock ∧ some k_ ≠ (v359 : Value).ownBlock) (Kd.R_N (Kd.R_bound ho2)) (fun k_ hk_ => ⟨hk_.1.1, hk_.1.2⟩)) (below_size (by repeat (first | (with_reducible first | exact HB.out | apply below_alloc | apply pw_below_drewN | apply below_drew1) | exact HB.out)))); have n3_ := Aside0.mk (below_step (by repeat (first | (with_reducible first | exact HB.out | apply below_alloc | apply pw_below_drewN | apply below_drew1) | exact HB.out)) hb); clear HB; have HO357 := n0_; have HO360 := n1_; have HO363 := n2_; have HB := n3_; clear n0_ n1_ n2_ n3_; (try clear hb); (try clear hb2); (try clear hk); (try clear hi); (try clear ho0); (try clear ho1); (try clear ho2)) | ((with_reducible refine gate_dst (N := 13) rfl ?_); (try (refine gate_guard (by rfl) ?_; dsimp only)); refine box_event ?hg (N := 13) ?hd (cs := #[.int .i64 0, .int .i64 0, .string (⟨#[]⟩ : ByteArray), .slice none 0 0, .slice none 0 0, .slice none 0 0]) (t := 32) ?hr ?_; (case hd => rfl); (case hg => rfl); (case hr => first | (go_simp; done) | (go_simp; rfl)); intro gb364 hg w115 hbox hb; have n0_ := Aside0.mk (Kd.R_below (by (with_reducible repeat (first | apply Kd.R_alloc | apply Kd.R_drewN | apply Kd.R_drew)); exact HO357.out) hb); have n1_ := Aside0.mk (Kd.N_below (Kd.N_elderB (by (with_reducible repeat (first | apply Kd.N_alloc | apply Kd.N_drewN | apply Kd.N_drew)); exact HO360.out) gb364 (Nat.le_of_eq hg.symm)) hb); have n2_ := Aside0.mk (Kd.N_below (Kd.N_elderB (by (with_reducible repeat (first | apply Kd.N_alloc | apply Kd.N_drewN | apply Kd.N_drew)); exact HO363.out) gb364 (Nat.le_of_eq hg.symm)) hb); have n3_ := Aside0.mk (below_step (by repeat (first | (with_reducible first | exact HB.out | apply below_alloc | apply pw_below_drewN | apply below_drew1) | exact HB.out)) hb); have n4_ := Aside0.mk (hbox); have n5_ := Aside0.mk ((by rw [hg]; exact (below_size (by repeat (first | (with_reducible first | exact HB.out | apply below_alloc | apply pw_below_drewN | apply below_drew1) | exact HB.out))) : w.heap.size ≤ gb364)); have n6_ := Aside0.mk ((by rw [hg]; exact (below_size (by repeat (first | (with_reducible first | exact HB.out | apply below_alloc | apply pw_below_drewN | apply below_drew1) | exact HB.out))) : w.heap.size ≤ gb364)); clear HO357; clear HO360; clear HO363; clear HB; have HO357 := n0_; have HO360 := n1_; have HO363 := n2_; have HB := n3_; have BK364 := n4_; have GW364 := n5_; have GE364 := n6_; clear n0_ n1_ n2_ n3_ n4_ n5_ n6_; clear hb hbox hg; have hcz116_0 : w115.cell? ⟨gb364, 0, none⟩ = some (.int .i64 0) := (blk_cell BK364.out 0).trans rfl; have hcz116_1 : w115.cell? ⟨gb364, 1, none⟩ = some (.int .i64 0) := (blk_cell BK364.out 1).trans rfl; have hcz116_2 : w115.cell? ⟨gb364, 2, none⟩ = some (.string (⟨#[]⟩ : ByteArray)) := (blk_cell BK364.out 2).trans rfl; have hcz116_3 : w115.cell? ⟨gb364, 3, none⟩ = some (.slice none 0 0) := (blk_cell BK364.out 3).trans rfl; have hcz116_4 : w115.cell? ⟨gb364, 4, none⟩ = some (.slice none 0 0) := (blk_cell BK364.out 4).trans rfl; have hcz116_5 : w115.cell? ⟨gb364, 5, none⟩ = some (.slice none 0 0) := (blk_cell BK364.out 5).trans rfl; have hfz116_0 := blk_frozen BK364.out 0; have hfz116_1 := blk_frozen BK364.out 1; have hfz116_2 := blk_frozen BK364.out 2; have hfz116_3 := blk_frozen BK364.out 3; have hfz116_4 := blk_frozen BK364.out 4; have hfz116_5 := blk_frozen BK364.out 5; obtain ⟨Ao117, co117, eo117⟩ := Kd.R_slice HO357.out; subst eo117; obtain ⟨Ao118, co118, eo118⟩ := Kd.N_slice HO360.out; subst eo118; obtain ⟨Ao119, co119, eo119⟩ := Kd.N_slice HO363.out; subst eo119) | ((with_reducible refine gate_dst (N := 116) rfl ?_); (try (refine gate_guard (by rfl) ?_; dsimp only)); refine Kd.R_lit Kd.string _ 9 ?hg (N := 116) ?hd (xs := ([a3] : List ByteArray)) (inner := [.string a3]) (ok := fun _ => True) (okp := fun _ => True) ?hr ?hp (fun _ hk => hk) trivial (Below.refl _ _) (Nat.le_refl _) (by simp) ?_; (case hd => rfl); (case hg => rfl); (case hr => first | (go_simp; done) | (go_simp; rfl)); (case hp => exact (Reps.one (show Kd.M Kd.string _ _ _ a3 [.string a3] from rfl) (Reps.none _ _))); intro v366 w120 ho121 hb hg_ hnew_; clear hg_ hnew_; (first | rw [← Ny365.out] at ho121 | (simp only [Int.reduceToNat] at ho121; rw [← Ny365.out] at ho121)); have n0_ := Aside0.mk (Kd.R_elder' (by (with_reducible repeat (first | apply Kd.R_alloc | apply Kd.R_drewN | apply Kd.R_drew)); exact (Kd.R_mono (Kd.R_far (p := ⟨gb364, 5, none⟩) (Kd.R_far (p := ⟨gb364, 4, none⟩) (Kd.R_far (p := ⟨gb364, 3, none⟩) (Kd.R_far (p := ⟨gb364, 2, none⟩) (Kd.R_far (p := ⟨gb364, 1, none⟩) (Kd.R_far (p := ⟨gb364, 0, none⟩) (Kd.R_types HO357.out BK364.out (by decide)) (fun _ hk => hk.2) (.int .i64 t352)) (fun _ hk => hk.2) (.int .i64 t353)) (fun _ hk => hk.2) (.string t354)) (fun _ hk => hk.2) (.slice Ao117 t355.length co117)) (fun _ hk => hk.2) (.slice Ao118 t358.length co118)) (fun _ hk => hk.2) (.slice Ao119 t361.length co119)) (fun _ h_ => h_.1))) (Kd.R_base ho121) hb); have n1_ := Aside0.mk (Kd.N_elder' (by (with_reducible repeat (first | apply Kd.N_alloc | apply Kd.N_drewN | apply Kd.N_drew)); exact (Kd.N_mono (Kd.N_far (p := ⟨gb364, 5, none⟩) (Kd.N_far (p := ⟨gb364, 4, none⟩) (Kd.N_far (p := ⟨gb364, 3, none⟩) (Kd.N_far (p := ⟨gb364, 2, none⟩) (Kd.N_far (p := ⟨gb364, 1, none⟩) (Kd.N_far (p := ⟨gb364, 0, none⟩) (Kd.N_mono HO360.out (fun k_ hk => (⟨hk, hk.2⟩ : _ ∧ k_ ≠ gb364))) (fun _ hk => hk.2) (.int .i64 t352)) (fun _ hk => hk.2) (.int .i64 t353)) (fun _ hk => hk.2) (.string t354)) (fun _ hk => hk.2) (.slice Ao117 t355.length co117)) (fun _ hk => hk.2) (.slice Ao118 t358.length co118)) (fun _ hk => hk.2) (.slice Ao119 t361.length co119)) (fun _ h_ => h_.1))) (Kd.R_base ho121) hb); have n2_ := Aside0.mk (Kd.N_elder' (by (with_reducible repeat (first | apply Kd.N_alloc | apply Kd.N_drewN | apply Kd.N_drew)); exact (Kd.N_mono (Kd.N_far (p := ⟨gb364, 5, none⟩) (Kd.N_far (p := ⟨gb364, 4, none⟩) (Kd.N_far (p := ⟨gb364, 3, none⟩) (Kd.N_far (p := ⟨gb364, 2, none⟩) (Kd.N_far (p := ⟨gb364, 1, none⟩) (Kd.N_far (p := ⟨gb364, 0, none⟩) (Kd.N_mono HO363.out (fun k_ hk => (⟨hk, hk.2⟩ : _ ∧ k_ ≠ gb364))) (fun _ hk => hk.2) (.int .i64 t352)) (fun _ hk => hk.2) (.int .i64 t353)) (fun _ hk => hk.2) (.string t354)) (fun _ hk => hk.2) (.slice Ao117 t355.length co117)) (fun _ hk => hk.2) (.slice Ao118 t358.length co118)) (fun _ hk => hk.2) (.slice Ao119 t361.length co119)) (fun _ h_ => h_.1))) (Kd.R_base ho121) hb); have n3_ := Aside0.mk (Kd.R_lower (Kd.R_new' ho121 (Kd.R_lt (by (with_reducible repeat (first | apply Kd.R_alloc | apply Kd.R_drewN | apply Kd.R_drew)); exact (Kd.R_mono (Kd.R_far (p := ⟨gb364, 5, none⟩) (Kd.R_far (p := ⟨gb364, 4, none⟩) (Kd.R_far (p := ⟨gb364, 3, none⟩) (Kd.R_far (p := ⟨gb364, 2, none⟩) (Kd.R_far (p := ⟨gb364, 1, none⟩) (Kd.R_far (p := ⟨gb364, 0, none⟩) (Kd.R_types HO357.out BK364.out (by decide)) (fun _ hk => hk.2) (.int .i64 t352)) (fun _ hk => hk.2) (.int .i64 t353)) (fun _ hk => hk.2) (.string t354)) (fun _ hk => hk.2) (.slice Ao117 t355.length co117)) (fun _ hk => hk.2) (.slice Ao118 t358.length co118)) (fun _ hk => hk.2) (.slice Ao119 t361.length co119)) (fun _ h_ => h_.1))))) (below_size (by repeat (first | (with_reducible first | exact HB.out | apply below_alloc | apply pw_below_drewN | apply below_drew1 | refine below_set ?_ GE364.out) | exact HB.out)))); have n4_ := Aside0.mk (blk_below (g := gb364) (o := .cells #[.int .i64 t352, .int .i64 t353, .string t354, .slice Ao117 t355.length co117, .slice Ao118 t358.length co118, .slice Ao119 t361.length co119] 32 (0, 0)) (by (with_reducible repeat (first | refine blk_drewN ?_ _ | refine blk_drew ?_ | refine blk_alloc ?_ _)); refine blk_put (cs := #[.int .i64 t352, .int .i64 t353, .string t354, .slice Ao117 t355.length co117, .slice Ao118 t358.length co118, .slice none 0 0]) ?_ 5 _ rfl; (with_reducible repeat (first | refine blk_drewN ?_ _ | refine blk_drew ?_ | refine blk_alloc ?_ _)); refine blk_put (cs := #[.int .i64 t352, .int .i64 t353, .string t354, .slice Ao117 t355.length co117, .slice none 0 0, .slice none 0 0]) ?_ 4 _ rfl; (with_reducible repeat (first | refine blk_drewN ?_ _ | refine blk_drew ?_ | refine blk_alloc ?_ _)); refine blk_put (cs := #[.int .i64 t352, .int .i64 t353, .string t354, .slice none 0 0, .slice none 0 0, .slice none 0 0]) ?_ 3 _ rfl; (with_reducible repeat (first | refine blk_drewN ?_ _ | refine blk_drew ?_ | refine blk_alloc ?_ _)); refine blk_put (cs := #[.int .i64 t352, .int .i64 t353, .string (⟨#[]⟩ : ByteArray), .slice none 0 0, .slice none 0 0, .slice none 0 0]) ?_ 2 _ rfl; (with_reducible repeat (first | refine blk_drewN ?_ _ | refine blk_drew ?_ | refine blk_alloc ?_ _)); refine blk_put (cs := #[.int .i64 t352, .int .i64 0, .string (⟨#[]⟩ : ByteArray), .slice none 0 0, .slice none 0 0, .slice none 0 0]) ?_ 1 _ rfl; (with_reducible repeat (first | refine blk_drewN ?_ _ | refine blk_drew ?_ | refine blk_alloc ?_ _)); refine blk_put (cs := #[.int .i64 0, .int .i64 0, .string (⟨#[]⟩ : ByteArray), .slice none 0 0, .slice none 0 0, .slice none 0 0]) ?_ 0 _ rfl; (with_reducible repeat (first | refine blk_drewN ?_ _ | refine blk_drew ?_ | refine blk_alloc ?_ _)); exact BK364.out) hb); have n5_ := Aside0.mk (below_step (by repeat (first | (with_reducible first | exact HB.out | apply below_alloc | apply pw_below_drewN | apply below_drew1 | refine below_set ?_ GE364.out) | exact HB.out)) hb); clear HO357; clear HO360; clear HO363; clear BK364; clear HB; have HO357 := n0_; have HO360 := n1_; have HO363 := n2_; have HO367 := n3_; have BK364 := n4_; have HB := n5_; clear n0_ n1_ n2_ n3_ n4_ n5_; clear hb ho121; obtain ⟨Ao122, co122, eo122⟩ := Kd.R_slice HO367.out; subst eo122) | ((with_reducible refine gate_dst (N := 118) rfl ?_); (try (refine gate_guard (by rfl) ?_; dsimp only)); refine Kd.N_lit k32 _ 32 ?hg (N' := 118) ?hd (xs := ([(⟨8, 0, a2, y365, ([] : List (S57)), ([] : List (S32))⟩ : S32)] : List (S32))) (inner := [.int .i64 8, .int .i64 0, .string a2, .slice Ao122 y365.length co122, .slice none 0 0, .slice none 0 0]) (ok := (fun k_ => some k_ ≠ (.slice Ao117 t355.length co117 : Value).ownBlock ∧ some k_ ≠ (.slice Ao118 t358.length co118 : Value).ownBlock ∧ some k_ ≠ (.slice Ao119 t361.length co119 : Value).ownBlock ∧ k_ ≠ gb364)) (okp := (fun k_ => some k_ ≠ (.slice Ao117 t355.length co117 : Value).ownBlock ∧ some k_ ≠ (.slice Ao118 t358.length co118 : Value).ownBlock ∧ some k_ ≠ (.slice Ao119 t361.length co119 : Value).ownBlock ∧ k_ ≠ gb364)) ?hr ?hp (fun _ hk => hk) ((show ∀ k_, w120.heap.size ≤ k_ → (fun k_ => some k_ ≠ (.slice Ao117 t355.length co117 : Value).ownBlock ∧ some k_ ≠ (.slice Ao118 t358.length co118 : Value).ownBlock ∧ some k_ ≠ (.slice Ao119 t361.length co119 : Value).ownBlock ∧ k_ ≠ gb364) k_ from fun k_ hk => ⟨Kd.fresh' (Kd.R_lt (by (with_reducible repeat (first | apply Kd.R_alloc | apply Kd.R_drewN | apply Kd.R_drew)); exact HO357.out)) k_ hk, Kd.fresh' (Kd.N_lt (by (with_reducible repeat (first | apply Kd.N_alloc | apply Kd.N_drewN | apply Kd.N_drew)); exact HO360.out)) k_ hk, Kd.fresh' (Kd.N_lt (by (with_reducible repeat (first | apply Kd.N_alloc | apply Kd.N_drewN | apply Kd.N_drew)); exact HO363.out)) k_ hk, Kd.freshB (g := gb364) (o := .cells #[.int .i64 t352, .int .i64 t353, .string t354, .slice Ao117 t355.length co117, .slice Ao118 t358.length co118, .slice Ao119 t361.length co119] 32 (0, 0)) (by (with_reducible repeat (first | refine blk_drewN ?_ _ | refine blk_drew ?_ | refine blk_alloc ?_ _)); exact BK364.out) k_ hk⟩) _ (Nat.le_refl _)) (Below.refl _ _) (Nat.le_refl _) (by simp) ?_; (case hd => rfl); (case hg => rfl); (case hr => first | (go_simp; done) | (go_simp; rfl)); (case hp => exact (Reps.c6 (show Kd.FK k32 _ _ (⟨8, 0, a2, y365, ([] : List (S57)), ([] : List (S32))⟩ : S32) [.int .i64 8, .int .i64 0, .string a2, .slice Ao122 y365.length co122, .slice none 0 0, .slice none 0 0] from (k32_mkF _ _ (⟨8, 0, a2, y365, ([] : List (S57)), ([] : List (S32))⟩ : S32) (Kd.R_reads' (Kd.R_mono (ok' := (fun k_ => some k_ ≠ (.slice Ao117 t355.length co117 : Value).ownBlock ∧ some k_ ≠ (.slice Ao118 t358.length co118 : Value).ownBlock ∧ some k_ ≠ (.slice Ao119 t361.length co119 : Value).ownBlock ∧ k_ ≠ gb364)) (Kd.R_types (Kd.R_apart' (Kd.R_apart' (HO367.out) (Kd.N_typed HO360.out) (by decide)) (Kd.N_typed HO363.out) (by decide)) BK364.out (by decide)) (fun k_ hk => ⟨hk.1.1.1.2, ⟨hk.1.1.2, ⟨hk.1.2, hk.2⟩⟩⟩))).2.1 (Kd.R_F (Kd.R_mono (ok' := (fun k_ => some k_ ≠ (.slice Ao117 t355.length co117 : Value).ownBlock ∧ some k_ ≠ (.slice Ao118 t358.length co118 : Value).ownBlock ∧ some k_ ≠ (.slice Ao119 t361.length co119 : Value).ownBlock ∧ k_ ≠ gb364)) (Kd.R_types (Kd.R_apart' (Kd.R_apart' (HO367.out) (Kd.N_typed HO360.out) (by decide)) (Kd.N_typed HO363.out) (by decide)) BK364.out (by decide)) (fun k_ hk => ⟨hk.1.1.1.2, ⟨hk.1.1.2, ⟨hk.1.2, hk.2⟩⟩⟩))) (Nat.le_refl _) (Kd.F_nil _ _ _) (Nat.le_refl _) (Kd.F_nil _ _ _))) (Reps.none _ _))); intro v369 w123 ho124 hb hg_ hnew_; clear hg_ hnew_; (first | rw [← Ny368.out] at ho124 | (simp only [Int.reduceToNat] at ho124; rw [← Ny368.out] at ho124)); have n0_ := Aside0.mk (Kd.R_below (by (with_reducible repeat (first | apply Kd.R_alloc | apply Kd.R_drewN | apply Kd.R_drew)); exact HO357.out) hb); have n1_ := Aside0.mk (Kd.N_elder' (by (with_reducible repeat (first | apply Kd.N_alloc | apply Kd.N_drewN | apply Kd.N_drew)); exact HO360.out) (Kd.N_base ho124) hb); have n2_ := Aside0.mk (Kd.N_elder' (by (with_reducible repeat (first | apply Kd.N_alloc | apply Kd.N_drewN | apply Kd.N_drew)); exact HO363.out) (Kd.N_base ho124) hb); have n3_ := Aside0.mk (Kd.N_lower ho124 (below_size (by repeat (first | (with_reducible first | exact HB.out | apply below_alloc | apply pw_below_drewN | apply below_drew1 | refine below_set ?_ GE364.out) | exact HB.out)))); have n4_ := Aside0.mk (blk_below (g := gb364) (o := .cells #[.int .i64 t352, .int .i64 t353, .string t354, .slice Ao117 t355.length co117, .slice Ao118 t358.length co118, .slice Ao119 t361.length co119] 32 (0, 0)) (by (with_reducible repeat (first | refine blk_drewN ?_ _ | refine blk_drew ?_ | refine blk_alloc ?_ _)); exact BK364.out) hb); have n5_ := Aside0.mk (below_step (by repeat (first | (with_reducible first | exact HB.out | apply below_alloc | apply pw_below_drewN | apply below_drew1 | refine below_set ?_ GE364.out) | exact HB.out)) hb); clear HO357; clear HO360; clear HO363; clear BK364; clear HB; clear HO367; have HO357 := n0_; have HO360 := n1_; have HO363 := n2_; have HO370 := n3_; have BK364 := n4_; have HB := n5_; clear n0_ n1_ n2_ n3_ n4_ n5_; clear hb ho124; obtain ⟨Ao125, co125, eo125⟩ := Kd.N_slice HO370.out; subst eo125) | ((with_reducible refine gate_callee (f := 12) rfl ?_); refine goesL_ (some 119) rfl rfl Tryd.func12 (by kernel_rfl) rfl #[.slice Ao125 y368.length co125] rfl (by (try simp only [List.map_toArray, List.map_cons, List.map_nil]); first | done | rfl | (simp only [List.length_drop, List.length_take]; rfl)) ?_; (with_reducible refine (emendationref10_Right.calls kj44 _ _ y368 t371 _ ?side1 ?side2 A52.out).mono ?_); (case side1 => repeat (first | exact (Kd.N_reads' HO370.out).2.2 | (with_reducible refine Kd.C_alloc ?_ _) | (with_reducible refine Kd.C_drewN ?_ _) | (with_reducible refine Kd.C_drew ?_))); (case side2 => exact (Kd.N_reads' HO370.out).2.1); rintro e w126 ⟨rfl, hb⟩; refine ⟨_, rfl, ?_⟩; have n0_ := Aside0.mk (Kd.R_below (by (with_reducible repeat (first | apply Kd.R_alloc | apply Kd.R_drewN | apply Kd.R_drew)); exact HO357.out) hb); have n1_ := Aside0.mk (Kd.N_below (by (with_reducible repeat (first | apply Kd.N_alloc | apply Kd.N_drewN | apply Kd.N_drew)); exact HO360.out) hb); have n2_ := Aside0.mk (Kd.N_below (by (with_reducible repeat (first | apply Kd.N_alloc | apply Kd.N_drewN | apply Kd.N_drew)); exact HO363.out) hb); have n3_ := Aside0.mk (Kd.N_below (by (with_reducible repeat (first | apply Kd.N_alloc | apply Kd.N_drewN | apply Kd.N_drew)); exact HO370.out) hb); have n4_ := Aside0.mk (blk_below (g := gb364) (o := .cells #[.int .i64 t352, .int .i64 t353, .string t354, .slice Ao117 t355.length co117, .slice Ao118 t358.length co118, .slice Ao119 t361.length co119] 32 (0, 0)) (by (with_reducible repeat (first | refine blk_drewN ?_ _ | refine blk_drew ?_ | refine blk_alloc ?_ _)); exact BK364.out) hb); have n5_ := Aside0.mk (below_step (by repeat (first | (with_reducible first | exact HB.out | apply below_alloc | apply pw_below_drewN | apply below_drew1 | refine below_set ?_ GE364.out) | exact HB.out)) hb); clear HO357; clear HO360; clear HO363; clear HO370; clear BK364; clear HB; have HO357 := n0_; have HO360 := n1_; have HO363 := n2_; have HO370 := n3_; have BK364 := n4_; have HB := n5_; clear n0_ n1_ n2_ n3_ n4_ n5_; (try clear hb); (try clear hb2); (try clear hk); (try clear hi); have hcz127_0 : w126.cell? ⟨gb364, 0, none⟩ = some (.int .i64 t352) := (blk_cell BK364.out 0).trans rfl; have hcz127_1 : w126.cell? ⟨gb364, 1, none⟩ = some (.int .i64 t353) := (blk_cell BK364.out 1).trans rfl; have hcz127_2 : w126.cell? ⟨gb364, 2, none⟩ = some (.string t354) := (blk_cell BK364.out 2).trans rfl; have hcz127_3 : w126.cell? ⟨gb364, 3, none⟩ = some (.slice Ao117 t355.length co117) := (blk_cell BK364.out 3).trans rfl; have hcz127_4 : w126.cell? ⟨gb364, 4, none⟩ = some (.slice Ao118 t358.length co118) := (blk_cell BK364.out 4).trans rfl; have hcz127_5 : w126.cell? ⟨gb364, 5, none⟩ = some (.slice Ao119 t361.length co119) := (blk_cell BK364.out 5).trans rfl; have hfz127_0 := blk_frozen BK364.out 0; have hfz127_1 := blk_frozen BK364.out 1; have hfz127_2 := blk_frozen BK364.out 2; have hfz127_3 := blk_frozen BK364.out 3; have hfz127_4 := blk_frozen BK364.out 4; have hfz127_5 := blk_frozen BK364.out 5))
                       go_ret
                       exact ⟨by first | rfl | (simp [errW_none, errW_some] <;> rfl) | (simp [*, errW_none, errW_some] <;> rfl), by repeat (first | (with_reducible first | exact HB.out | apply below_alloc | apply pw_below_drewN | apply below_drew1 | refine below_set ?_ GE364.out) | exact HB.out)⟩
                     ·
                      rw [if_neg c50] at H
                      exact absurd H (by simp)
                    ·
                     rw [if_neg c49] at H
                     exact absurd H (by simp)
                   ·
                    rw [if_neg c48] at H
                    exact absurd H (by simp)
        ·
         rw [if_neg c16] at H
         exact absurd H (by simp)
       ·
        rw [if_neg c15] at H
        exact absurd H (by simp)

end Go.Proofs.YticaofendehebaaDoor.X
