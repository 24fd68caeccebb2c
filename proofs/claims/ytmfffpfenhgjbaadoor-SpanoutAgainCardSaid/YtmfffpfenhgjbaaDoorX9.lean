-- Written by a program of this session (wip/mkprint.py over the kit's print) out of the translation; Lean checks it.
import Derived.Test.YtmfffpfenhgjbaaDoorX0
import Derived.Test.YtmfffpfenhgjbaaDoorX1
import Derived.Test.YtmfffpfenhgjbaaDoorX7
import Derived.Test.YtmfffpfenhgjbaaDoorX8
import Derived.Test.YtmfffpfenhgjbaaDoorGivenReadAll
import Derived.Test.YtmfffpfenhgjbaaDoorGivenStrs
import Derived.Test.YtmfffpfenhgjbaaDoorGivenTabs
namespace Go.Proofs.YtmfffpfenhgjbaaDoor.X
open Go.RowKit Go.Proofs.YtmfffpfenhgjbaaDoor.G Go.Proofs.YtmfffpfenhgjbaaDoorW.PrintWords Go.Proofs.YtmfffpfenhgjbaaDoorW.PrintLast Go.Proofs.YtmfffpfenhgjbaaDoorW.PrintMore
attribute [local go_sem] max2_int min2_int max_two min_two max_three min_three max_four min_four   -- for this text's walks alone
set_option linter.unusedVariables false
set_option linter.unusedSimpArgs false

-- GIVEN: function 43 (spanin_reader_read)

/-! ### spanin_Parse: function 21 -/
def spanin_Parse.f (a0 : ByteArray) : Option ((List (S26))) := (spanin_reader_read.f a0 0 false false).bind fun bt169 => (some bt169.1)
set_option maxHeartbeats 8000000 in
set_option maxRecDepth 100000 in
theorem spanin_Parse.calls (a0 : ByteArray) (r : List (S26)) (w : World) (hT : Tabs w) (h : spanin_Parse.f a0 = some r) :
  Calls Tryd.prog 21 #[.string a0] w fun e w' => ∃ v0_ : Value, e = .returned (v0_) ∧ Kd.R k26 26 w' w.heap.size (fun _ => True) v0_ r ∧ Below w.heap.size w w' := by
 have hu50 := Tryd.underlying50
 have HT := Aside0.mk hT
 clear hT
 have HB := Aside0.mk (Below.refl w.heap.size w)
 have H : ((spanin_reader_read.f a0 0 false false).bind fun bt169 => (some bt169.1)) = some r := h
 clear h
 replace H := Option.bind_eq_some_iff.mp H
 obtain ⟨⟨t169, t172⟩, A20, H⟩ := H
 replace H : (some t169) = some r := H
 have A2 := Aside0.mk A20
 clear A20
 obtain rfl := Option.some.inj H
 go_enter Tryd.func21, Tryd.ntmps21
 go_wp2_with (first | ((with_reducible refine gate_callee (f := 43) rfl ?_); refine goesL_ (some 8) rfl rfl Tryd.func43 (by kernel_rfl) rfl #[.agg #[.string a0], .int .i64 0, .bool false, .bool false] rfl (by (try simp only [List.map_toArray, List.map_cons, List.map_nil]); first | done | rfl | (simp only [List.length_drop, List.length_take]; rfl)) ?_; (with_reducible refine (spanin_reader_read.calls a0 0 false false t169 t172 _ ?side1 A2.out).mono ?_); (case side1 => first | exact HT.out | exact Tabs.at HT.out (by repeat (with_reducible first | exact HB.out | apply below_alloc | apply pw_below_drewN | apply below_drew1))); rintro e w3 ⟨v170, rfl, ho0, hb⟩; refine ⟨_, rfl, ?_⟩; have n0_ := Aside0.mk (Kd.R_lower ho0 (below_size (by repeat (with_reducible first | exact HB.out | apply below_alloc | apply pw_below_drewN | apply below_drew1)))); have n1_ := Aside0.mk (below_step (by repeat (with_reducible first | exact HB.out | apply below_alloc | apply pw_below_drewN | apply below_drew1)) hb); clear HB; have HO171 := n0_; have HB := n1_; clear n0_ n1_; (try clear hb); (try clear hb2); (try clear hk); (try clear hi); (try clear ho0)))
 go_ret
 exact ⟨_, by first | rfl | (simp [errW_none, errW_some] <;> rfl) | (simp [*, errW_none, errW_some] <;> rfl), by (with_reducible repeat (first | apply Kd.R_alloc | apply Kd.R_drewN | apply Kd.R_drew)); exact HO171.out, by repeat (with_reducible first | exact HB.out | apply below_alloc | apply pw_below_drewN | apply below_drew1)⟩

-- GIVEN: function 47 (strings_Split)

/-! ### spanin_Clean: function 23 -/
mutual
def spanin_Clean.j0 : Nat → ByteArray → Bool → Option (Bool)
 | 0, _, _ => none
 | k + 1, x0, x12 => if x12 = true then (some false) else (if x0.toList = ([] : List UInt8) then (some true) else ((strings_Split.f x0 (⟨#[10]⟩ : ByteArray)).bind fun t178 => (spanin_Clean.l0 k t178 (t178.length : Int) 0)))
def spanin_Clean.l0 : Nat → List ByteArray → Int → Int → Option (Bool)
 | 0, _, _, _ => none
 | k + 1, x16, x17, x18 => if x18 < x17 then (if 0 ≤ x18 then (if x18 < (x16.length : Int) then (if (rdOf ByteArray.empty x16 x18).toList = ([] : List UInt8) then (some false) else ((lines_Trim.f (rdOf ByteArray.empty x16 x18)).bind fun t182 => (if t182.toList = (rdOf ByteArray.empty x16 x18).toList then (spanin_Clean.l0 k x16 x17 (wrap64 (x18 + 1))) else (some false)))) else (none)) else (none)) else (some true)
end
def spanin_Clean.f (k : Nat) (a0 : ByteArray) : Option (Bool) := if a0.size ≤ 9223372036854775807 then ((utf_Check.f (bytesOf a0)).bind fun t176 => (if t176 = 0 then ((strings_ContainsRune.f a0 13).bind fun t177 => (spanin_Clean.j0 k a0 t177)) else (spanin_Clean.j0 k a0 true))) else (none)
set_option maxHeartbeats 8000000 in
set_option maxRecDepth 100000 in
theorem spanin_Clean.calls (k : Nat) (a0 : ByteArray) (r : Bool) (w : World) (hT : Tabs w) (h : spanin_Clean.f k a0 = some r) :
  Calls Tryd.prog 23 #[.string a0] w fun e w' => e = .returned (.bool r) ∧ Below w.heap.size w w' := by
 have HT := Aside0.mk hT
 clear hT
 have HB := Aside0.mk (Below.refl w.heap.size w)
 have H : (if a0.size ≤ 9223372036854775807 then ((utf_Check.f (bytesOf a0)).bind fun t176 => (if t176 = 0 then ((strings_ContainsRune.f a0 13).bind fun t177 => (spanin_Clean.j0 k a0 t177)) else (spanin_Clean.j0 k a0 true))) else (none)) = some r := h
 clear h
 have HC2 := Aside0.mk H
 clear H
 go_enter Tryd.func23, Tryd.ntmps23
 go_upto_region 1 with (fail)
 go_cut [12] (fun v12 wc => ∃ (kq : Nat) (x12_1 : Bool), v12 = .bool x12_1 ∧ Aside0 (spanin_Clean.j0 kq a0 x12_1 = some r) ∧ Aside0 (kq ≤ k) ∧ Aside0 (Below w.heap.size w wc))
 case first =>
  have H := HC2.out
  clear HC2
  by_cases c3 : a0.size ≤ 9223372036854775807
  ·
   rw [if_pos c3] at H
   have c3b0 := eq_true c3
   have c3b1 : decide (a0.size ≤ 9223372036854775807) = true := decide_eq_true c3
   try have c3b2 : (9223372036854775807 < a0.size) = False := eq_false (Nat.not_lt.2 c3)
   clear c3
   obtain ⟨y173, hy173⟩ : ∃ y_ : List Int, y_ = (bytesOf a0) := ⟨_, rfl⟩
   replace H : ((utf_Check.f y173).bind fun t176 => (if t176 = 0 then ((strings_ContainsRune.f a0 13).bind fun t177 => (spanin_Clean.j0 k a0 t177)) else (spanin_Clean.j0 k a0 true))) = some r := by first | (rw [hy173]; with_reducible exact H) | (have H2_ := (Option.bind_some _ _).symm.trans H; rw [hy173]; with_reducible exact H2_) | (have H2_ := (Option.bind_some _ _).symm.trans H; with_reducible exact H2_) | with_reducible exact H | (rw [hy173]; exact H) | exact H
   have Ny173 := Aside0.mk hy173
   clear hy173
   replace H := Option.bind_eq_some_iff.mp H
   obtain ⟨t176, A40, H⟩ := H
   replace H : (if t176 = 0 then ((strings_ContainsRune.f a0 13).bind fun t177 => (spanin_Clean.j0 k a0 t177)) else (spanin_Clean.j0 k a0 true)) = some r := H
   have A4 := Aside0.mk A40
   clear A40
   by_cases c5 : t176 = 0
   ·
    rw [if_pos c5] at H
    have c5b0 : (t176 == 0) = true := beq_iff_eq.mpr c5
    have c5b1 : (t176 != 0) = false := bne_eq_false_iff_eq.mpr c5
    clear c5
    (first | rw [c5b0] | (simp only [i64_w, i32_w]; rw [c5b0]) | skip)
    replace H := Option.bind_eq_some_iff.mp H
    obtain ⟨t177, A60, H⟩ := H
    replace H : (spanin_Clean.j0 k a0 t177) = some r := H
    have A6 := Aside0.mk A60
    clear A60
    have H' := Aside0.mk H
    clear H
    go_wp2_with (first | ((with_reducible refine gate_dst (N := 6) rfl ?_); refine Kd.V_conv _ 5 rfl (N := 6) rfl 9 54 _ rfl a0 rfl Tryd.underlying9 Tryd.underlying54 Tryd.underlying5 (of_decide_eq_true (by first | (with_reducible assumption) | assumption | rfl)) (Below.refl _ _) (Nat.le_refl _) ?_; intro v174 w7 ho8 hb hg_ hnew_; clear hg_ hnew_; (first | rw [← Ny173.out] at ho8 | (simp only [Int.reduceToNat] at ho8; rw [← Ny173.out] at ho8)); have n0_ := Aside0.mk (Kd.V_lower (Kd.V_mono (ok' := fun k_ => True) ho8 (fun k_ hk_ => trivial)) (below_size (by repeat (with_reducible first | exact HB.out | apply below_alloc | apply pw_below_drewN | apply below_drew1)))); have n1_ := Aside0.mk (below_step (by repeat (with_reducible first | exact HB.out | apply below_alloc | apply pw_below_drewN | apply below_drew1)) hb); clear HB; have HO175 := n0_; have HB := n1_; clear n0_ n1_; clear hb ho8; obtain ⟨Ao9, co9, eo9⟩ := Kd.V_slice HO175.out; subst eo9) | ((with_reducible refine gate_callee (f := 45) rfl ?_); refine goesL_ (some 7) rfl rfl Tryd.func45 (by kernel_rfl) rfl #[.slice Ao9 y173.length co9] rfl (by (try simp only [List.map_toArray, List.map_cons, List.map_nil]); first | done | rfl | (simp only [List.length_drop, List.length_take]; rfl)) ?_; (with_reducible refine (utf_Check.calls _ _ y173 t176 _ ?side3 ?side1 ?side2 A4.out).mono ?_); (case side1 => repeat (first | exact (Kd.V_reads' HO175.out).2.2 | (with_reducible refine Kd.C_alloc ?_ _) | (with_reducible refine Kd.C_drewN ?_ _) | (with_reducible refine Kd.C_drew ?_))); (case side2 => exact (Kd.V_reads' HO175.out).2.1); (case side3 => first | exact HT.out | exact Tabs.at HT.out (by repeat (with_reducible first | exact HB.out | apply below_alloc | apply pw_below_drewN | apply below_drew1))); rintro e w10 ⟨rfl, hb⟩; refine ⟨_, rfl, ?_⟩; have n0_ := Aside0.mk (Kd.V_below (by (with_reducible repeat (first | apply Kd.V_alloc | apply Kd.V_drewN | apply Kd.V_drew)); exact HO175.out) hb); have n1_ := Aside0.mk (below_step (by repeat (with_reducible first | exact HB.out | apply below_alloc | apply pw_below_drewN | apply below_drew1)) hb); clear HO175; clear HB; have HO175 := n0_; have HB := n1_; clear n0_ n1_; (try clear hb); (try clear hb2); (try clear hk); (try clear hi); have tkA6 : True := trivial) | (go_at_call 46; clear tkA6; (with_reducible refine (strings_ContainsRune.calls a0 13 t177 _ A6.out).mono ?_); rintro e w11 ⟨rfl, hb⟩; have n0_ := Aside0.mk (Kd.V_below (by (with_reducible repeat (first | apply Kd.V_alloc | apply Kd.V_drewN | apply Kd.V_drew)); exact HO175.out) hb); have n1_ := Aside0.mk (below_step (by repeat (with_reducible first | exact HB.out | apply below_alloc | apply pw_below_drewN | apply below_drew1)) hb); clear HO175; clear HB; have HO175 := n0_; have HB := n1_; clear n0_ n1_; (try clear hb); (try clear hb2); (try clear hk); (try clear hi)))
    go_meet
    case rel => exact ⟨_, (t177), (by first | rfl | (simp; done) | (simp [*]; done) | (simp [bne, beq_nil_E]; done)), H', ⟨by first | omega | exact Nat.le_refl _⟩, ⟨by repeat (with_reducible first | exact HB.out | apply below_alloc | apply pw_below_drewN | apply below_drew1)⟩⟩
   ·
    rw [if_neg c5] at H
    have c5b0 : (t176 == 0) = false := beq_eq_false_iff_ne.mpr c5
    have c5b1 : (t176 != 0) = true := bne_iff_ne.mpr c5
    (first | rw [c5b0] | (simp only [i64_w, i32_w]; rw [c5b0]) | skip)
    have H' := Aside0.mk H
    clear H
    go_wp2_with (first | ((with_reducible refine gate_dst (N := 6) rfl ?_); refine Kd.V_conv _ 5 rfl (N := 6) rfl 9 54 _ rfl a0 rfl Tryd.underlying9 Tryd.underlying54 Tryd.underlying5 (of_decide_eq_true (by first | (with_reducible assumption) | assumption | rfl)) (Below.refl _ _) (Nat.le_refl _) ?_; intro v174 w12 ho13 hb hg_ hnew_; clear hg_ hnew_; (first | rw [← Ny173.out] at ho13 | (simp only [Int.reduceToNat] at ho13; rw [← Ny173.out] at ho13)); have n0_ := Aside0.mk (Kd.V_lower (Kd.V_mono (ok' := fun k_ => True) ho13 (fun k_ hk_ => trivial)) (below_size (by repeat (with_reducible first | exact HB.out | apply below_alloc | apply pw_below_drewN | apply below_drew1)))); have n1_ := Aside0.mk (below_step (by repeat (with_reducible first | exact HB.out | apply below_alloc | apply pw_below_drewN | apply below_drew1)) hb); clear HB; have HO175 := n0_; have HB := n1_; clear n0_ n1_; clear hb ho13; obtain ⟨Ao14, co14, eo14⟩ := Kd.V_slice HO175.out; subst eo14) | ((with_reducible refine gate_callee (f := 45) rfl ?_); refine goesL_ (some 7) rfl rfl Tryd.func45 (by kernel_rfl) rfl #[.slice Ao14 y173.length co14] rfl (by (try simp only [List.map_toArray, List.map_cons, List.map_nil]); first | done | rfl | (simp only [List.length_drop, List.length_take]; rfl)) ?_; (with_reducible refine (utf_Check.calls _ _ y173 t176 _ ?side3 ?side1 ?side2 A4.out).mono ?_); (case side1 => repeat (first | exact (Kd.V_reads' HO175.out).2.2 | (with_reducible refine Kd.C_alloc ?_ _) | (with_reducible refine Kd.C_drewN ?_ _) | (with_reducible refine Kd.C_drew ?_))); (case side2 => exact (Kd.V_reads' HO175.out).2.1); (case side3 => first | exact HT.out | exact Tabs.at HT.out (by repeat (with_reducible first | exact HB.out | apply below_alloc | apply pw_below_drewN | apply below_drew1))); rintro e w15 ⟨rfl, hb⟩; refine ⟨_, rfl, ?_⟩; have n0_ := Aside0.mk (Kd.V_below (by (with_reducible repeat (first | apply Kd.V_alloc | apply Kd.V_drewN | apply Kd.V_drew)); exact HO175.out) hb); have n1_ := Aside0.mk (below_step (by repeat (with_reducible first | exact HB.out | apply below_alloc | apply pw_below_drewN | apply below_drew1)) hb); clear HO175; clear HB; have HO175 := n0_; have HB := n1_; clear n0_ n1_; (try clear hb); (try clear hb2); (try clear hk); (try clear hi)))
    go_meet
    case rel => exact ⟨_, (true), (by first | rfl | (simp; done) | (simp [*]; done) | (simp [bne, beq_nil_E]; done)), H', ⟨by first | omega | exact Nat.le_refl _⟩, ⟨by repeat (with_reducible first | exact HB.out | apply below_alloc | apply pw_below_drewN | apply below_drew1)⟩⟩
  ·
   rw [if_neg c3] at H
   exact absurd H (by simp)
 case rest =>
  clear HC2
  try clear c2
  try clear p2
  try clear c3
  try clear c3b0
  try clear c3b1
  try clear c3b2
  try clear c4
  try clear c5
  try clear c5b0
  try clear c5b1
  obtain ⟨kq, x12_1, rfl, HA, HJ1, HB⟩ := hcut
  cases kq with
  | zero => exact absurd HA.out (by simp [spanin_Clean.j0])
  | succ kj1 =>
   have H := HA.out
   clear HA
   simp only [spanin_Clean.j0] at H
   by_cases c16 : x12_1 = true
   ·
    subst c16
    have H1 : (some false) = some r := by rw [if_pos rfl] at H; exact H
    clear H
    have H := H1
    clear H1
    obtain rfl := Option.some.inj H
    go_wp2
    go_ret
    exact ⟨by first | rfl | (simp [errW_none, errW_some] <;> rfl) | (simp [*, errW_none, errW_some] <;> rfl), by repeat (with_reducible first | exact HB.out | apply below_alloc | apply pw_below_drewN | apply below_drew1)⟩
   ·
    replace c16 := Bool.eq_false_iff.mpr c16
    subst c16
    have H1 : (if a0.toList = ([] : List UInt8) then (some true) else ((strings_Split.f a0 (⟨#[10]⟩ : ByteArray)).bind fun t178 => (spanin_Clean.l0 kj1 t178 (t178.length : Int) 0))) = some r := by rw [if_neg (show ¬ (false = true) by decide)] at H; exact H
    clear H
    have H := H1
    clear H1
    by_cases c17 : a0.toList = ([] : List UInt8)
    ·
     rw [if_pos c17] at H
     have c17b0 : (a0.toList == ([] : List UInt8)) = true := beq_iff_eq.mpr c17
     have c17b1 : (a0.toList != ([] : List UInt8)) = false := bne_eq_false_iff_eq.mpr c17
     (try (have c17b0e := c17b0; simp only [beq_nil_E] at c17b0e))
     clear c17
     obtain rfl := Option.some.inj H
     go_wp2
     go_ret
     exact ⟨by first | rfl | (simp [errW_none, errW_some] <;> rfl) | (simp [*, errW_none, errW_some] <;> rfl), by repeat (with_reducible first | exact HB.out | apply below_alloc | apply pw_below_drewN | apply below_drew1)⟩
    ·
     rw [if_neg c17] at H
     have c17b0 : (a0.toList == ([] : List UInt8)) = false := beq_eq_false_iff_ne.mpr c17
     have c17b1 : (a0.toList != ([] : List UInt8)) = true := bne_iff_ne.mpr c17
     (try (have c17b0e := c17b0; simp only [beq_nil_E] at c17b0e))
     replace H := Option.bind_eq_some_iff.mp H
     obtain ⟨t178, A180, H⟩ := H
     replace H : (spanin_Clean.l0 kj1 t178 (t178.length : Int) 0) = some r := H
     have A18 := Aside0.mk A180
     clear A180
     have H' := Aside0.mk H
     clear H
     go_wp2_with (first | ((with_reducible refine gate_callee (f := 47) rfl ?_); refine goesL_ (some 16) rfl rfl Tryd.func47 (by kernel_rfl) rfl #[.string a0, .string (⟨#[10]⟩ : ByteArray)] rfl (by (try simp only [List.map_toArray, List.map_cons, List.map_nil]); first | done | rfl | (simp only [List.length_drop, List.length_take]; rfl)) ?_; (with_reducible refine (strings_Split.calls a0 (⟨#[10]⟩ : ByteArray) t178 _ ?side1 A18.out).mono ?_); (case side1 => first | exact HT.out | exact Tabs.at HT.out (by repeat (with_reducible first | exact HB.out | apply below_alloc | apply pw_below_drewN | apply below_drew1))); rintro e w19 ⟨v179, rfl, ho0, hb⟩; refine ⟨_, rfl, ?_⟩; have n0_ := Aside0.mk (Kd.R_lower ho0 (below_size (by repeat (with_reducible first | exact HB.out | apply below_alloc | apply pw_below_drewN | apply below_drew1)))); have n1_ := Aside0.mk (below_step (by repeat (with_reducible first | exact HB.out | apply below_alloc | apply pw_below_drewN | apply below_drew1)) hb); clear HB; have HO180 := n0_; have HB := n1_; clear n0_ n1_; (try clear hb); (try clear hb2); (try clear hk); (try clear hi); (try clear ho0); obtain ⟨Ao20, co20, eo20⟩ := Kd.R_slice HO180.out; subst eo20))
     go_loopg [18] kj1 (fun kq v18 w' => ∃ (x18_2 : Int), v18 = .int .i64 x18_2 ∧ Aside0 (spanin_Clean.l0 kq t178 (t178.length : Int) x18_2 = some r) ∧ Aside0 (kq ≤ kj1) ∧ Aside0 (Kd.R Kd.string 9 w' w.heap.size (fun _ => True) (.slice Ao20 t178.length co20) t178) ∧ Aside0 (Below w.heap.size w w'))
     case atStart => exact ⟨(0), (by first | rfl | (simp; done) | (simp [*]; done) | (simp [bne, beq_nil_E]; done)), H', ⟨Nat.le_refl _⟩, ⟨by (with_reducible repeat (first | apply Kd.R_alloc | apply Kd.R_drewN | apply Kd.R_drew)); exact HO180.out⟩, ⟨by repeat (with_reducible first | exact HB.out | apply below_alloc | apply pw_below_drewN | apply below_drew1)⟩⟩
     case round =>
      clear H'
      try clear c1
      try clear c2
      try clear p2
      try clear c3
      try clear c3b0
      try clear c3b1
      try clear c3b2
      try clear c4
      try clear c5
      try clear c5b0
      try clear c5b1
      try clear c16
      try clear c17
      try clear c17b0
      try clear c17b1
      try clear p2
      obtain ⟨x18_2, rfl, HA, HK2, HO_16, HB⟩ := hrel
      cases gk with
      | zero => exact absurd HA.out (by simp [spanin_Clean.l0])
      | succ k2 =>
       have H := HA.out
       clear HA
       simp only [spanin_Clean.l0] at H
       by_cases c21 : x18_2 < (t178.length : Int)
       ·
        rw [if_pos c21] at H
        have c21b0 : decide (x18_2 < (t178.length : Int)) = true := decide_eq_true c21
        clear c21
        by_cases c22 : 0 ≤ x18_2
        ·
         rw [if_pos c22] at H
         have c22b0 : decide (0 ≤ x18_2) = true := decide_eq_true c22
         clear c22
         by_cases c23 : x18_2 < (t178.length : Int)
         ·
          rw [if_pos c23] at H
          have c23b0 : decide (x18_2 < (t178.length : Int)) = true := decide_eq_true c23
          clear c23
          by_cases c24 : (rdOf ByteArray.empty t178 x18_2).toList = ([] : List UInt8)
          ·
           rw [if_pos c24] at H
           have c24b0 : ((rdOf ByteArray.empty t178 x18_2).toList == ([] : List UInt8)) = true := beq_iff_eq.mpr c24
           have c24b1 : ((rdOf ByteArray.empty t178 x18_2).toList != ([] : List UInt8)) = false := bne_eq_false_iff_eq.mpr c24
           (try (have c24b0e := c24b0; simp only [beq_nil_E] at c24b0e))
           clear c24
           obtain rfl := Option.some.inj H
           have p181 : 0 ≤ (x18_2 : Int) := of_decide_eq_true (by first | (with_reducible assumption) | assumption)
           have q181 : x18_2 < (t178.length : Int) := of_decide_eq_true (by first | (with_reducible assumption) | assumption)
           obtain ⟨ad181, e181, hx181_0⟩ := Kd.at_string (Kd.R_reads' HO_16.out).2.2 x18_2 p181 q181
           cases e181
           replace p181 := eq_true p181
           replace q181 := eq_true q181
           go_wp2
           go_ret
           exact ⟨by first | rfl | (simp [errW_none, errW_some] <;> rfl) | (simp [*, errW_none, errW_some] <;> rfl), by repeat (with_reducible first | exact HB.out | apply below_alloc | apply pw_below_drewN | apply below_drew1)⟩
          ·
           rw [if_neg c24] at H
           have c24b0 : ((rdOf ByteArray.empty t178 x18_2).toList == ([] : List UInt8)) = false := beq_eq_false_iff_ne.mpr c24
           have c24b1 : ((rdOf ByteArray.empty t178 x18_2).toList != ([] : List UInt8)) = true := bne_iff_ne.mpr c24
           (try (have c24b0e := c24b0; simp only [beq_nil_E] at c24b0e))
           replace H := Option.bind_eq_some_iff.mp H
           obtain ⟨t182, A250, H⟩ := H
           replace H : (if t182.toList = (rdOf ByteArray.empty t178 x18_2).toList then (spanin_Clean.l0 k2 t178 (t178.length : Int) (wrap64 (x18_2 + 1))) else (some false)) = some r := H
           have A25 := Aside0.mk A250
           clear A250
           by_cases c26 : t182.toList = (rdOf ByteArray.empty t178 x18_2).toList
           ·
            rw [if_pos c26] at H
            have c26b0 : (t182.toList == (rdOf ByteArray.empty t178 x18_2).toList) = true := beq_iff_eq.mpr c26
            have c26b1 : (t182.toList != (rdOf ByteArray.empty t178 x18_2).toList) = false := bne_eq_false_iff_eq.mpr c26
            clear c26
            have H' := Aside0.mk H
            clear H
            have p181 : 0 ≤ (x18_2 : Int) := of_decide_eq_true (by first | (with_reducible assumption) | assumption)
            have q181 : x18_2 < (t178.length : Int) := of_decide_eq_true (by first | (with_reducible assumption) | assumption)
            obtain ⟨ad181, e181, hx181_0⟩ := Kd.at_string (Kd.R_reads' HO_16.out).2.2 x18_2 p181 q181
            cases e181
            replace p181 := eq_true p181
            replace q181 := eq_true q181
            have tkA25 : True := trivial
            go_wp2_with (first | (go_at_call 48; clear tkA25; (with_reducible refine (lines_Trim.calls (rdOf ByteArray.empty t178 x18_2) t182 _ A25.out).mono ?_); rintro e w27 ⟨rfl, hb⟩; have n0_ := Aside0.mk (Kd.R_below (by (with_reducible repeat (first | apply Kd.R_alloc | apply Kd.R_drewN | apply Kd.R_drew)); exact HO_16.out) hb); have n1_ := Aside0.mk (below_step (by repeat (with_reducible first | exact HB.out | apply below_alloc | apply pw_below_drewN | apply below_drew1)) hb); clear HO_16; clear HB; have HO_16 := n0_; have HB := n1_; clear n0_ n1_; (try clear hb); (try clear hb2); (try clear hk); (try clear hi)))
            go_roundg k2
            case measure => have := HJ1.out; have := HK2.out; omega
            case rel => exact ⟨(wrap64 (x18_2 + 1)), (by first | rfl | (simp; done) | (simp [*]; done) | (simp [bne, beq_nil_E]; done)), H', ⟨by have := HJ1.out; have := HK2.out; omega⟩, ⟨by (with_reducible repeat (first | apply Kd.R_alloc | apply Kd.R_drewN | apply Kd.R_drew)); exact HO_16.out⟩, ⟨by repeat (with_reducible first | exact HB.out | apply below_alloc | apply pw_below_drewN | apply below_drew1)⟩⟩
           ·
            rw [if_neg c26] at H
            have c26b0 : (t182.toList == (rdOf ByteArray.empty t178 x18_2).toList) = false := beq_eq_false_iff_ne.mpr c26
            have c26b1 : (t182.toList != (rdOf ByteArray.empty t178 x18_2).toList) = true := bne_iff_ne.mpr c26
            obtain rfl := Option.some.inj H
            have p181 : 0 ≤ (x18_2 : Int) := of_decide_eq_true (by first | (with_reducible assumption) | assumption)
            have q181 : x18_2 < (t178.length : Int) := of_decide_eq_true (by first | (with_reducible assumption) | assumption)
            obtain ⟨ad181, e181, hx181_0⟩ := Kd.at_string (Kd.R_reads' HO_16.out).2.2 x18_2 p181 q181
            cases e181
            replace p181 := eq_true p181
            replace q181 := eq_true q181
            have tkA25 : True := trivial
            go_wp2_with (first | (go_at_call 48; clear tkA25; (with_reducible refine (lines_Trim.calls (rdOf ByteArray.empty t178 x18_2) t182 _ A25.out).mono ?_); rintro e w28 ⟨rfl, hb⟩; have n0_ := Aside0.mk (Kd.R_below (by (with_reducible repeat (first | apply Kd.R_alloc | apply Kd.R_drewN | apply Kd.R_drew)); exact HO_16.out) hb); have n1_ := Aside0.mk (below_step (by repeat (with_reducible first | exact HB.out | apply below_alloc | apply pw_below_drewN | apply below_drew1)) hb); clear HO_16; clear HB; have HO_16 := n0_; have HB := n1_; clear n0_ n1_; (try clear hb); (try clear hb2); (try clear hk); (try clear hi)))
            go_ret
            exact ⟨by first | rfl | (simp [errW_none, errW_some] <;> rfl) | (simp [*, errW_none, errW_some] <;> rfl), by repeat (with_reducible first | exact HB.out | apply below_alloc | apply pw_below_drewN | apply below_drew1)⟩
         ·
          rw [if_neg c23] at H
          exact absurd H (by simp)
        ·
         rw [if_neg c22] at H
         exact absurd H (by simp)
       ·
        rw [if_neg c21] at H
        have c21b0 : decide (x18_2 < (t178.length : Int)) = false := decide_eq_false c21
        clear c21
        obtain rfl := Option.some.inj H
        go_wp2
        go_ret
        exact ⟨by first | rfl | (simp [errW_none, errW_some] <;> rfl) | (simp [*, errW_none, errW_some] <;> rfl), by repeat (with_reducible first | exact HB.out | apply below_alloc | apply pw_below_drewN | apply below_drew1)⟩

/-! ### emendationlaw08_awake: function 19 -/
def emendationlaw08_awake.f (k : Nat)  : Option (Bool) := (spanin_Parse.f (⟨#[97, 32, 42, 98, 42]⟩ : ByteArray)).bind fun t183 => (if (t183.length : Int) = 2 then (if 0 < (t183.length : Int) then (if ((rd_T26 t183 0).f1).toList = ([97, 32] : List UInt8) then (if 1 < (t183.length : Int) then (if ((rd_T26 t183 1).f0) = 3 then ((spanin_Clean.f k (⟨#[97]⟩ : ByteArray)).bind fun t188 => (if t188 = true then ((spanin_Ticks.f k (⟨#[97, 96, 96]⟩ : ByteArray) 1).bind fun t189 => (some (t189 == 2))) else (some false))) else (some false)) else (none)) else (some false)) else (none)) else (some false))
set_option maxHeartbeats 8000000 in
set_option maxRecDepth 100000 in
theorem emendationlaw08_awake.calls (k : Nat)  (r : Bool) (w : World) (hT : Tabs w) (h : emendationlaw08_awake.f k  = some r) :
  Calls Tryd.prog 19 #[] w fun e w' => e = .returned (.bool r) ∧ Below w.heap.size w w' := by
 have HT := Aside0.mk hT
 clear hT
 have HB := Aside0.mk (Below.refl w.heap.size w)
 have H : ((spanin_Parse.f (⟨#[97, 32, 42, 98, 42]⟩ : ByteArray)).bind fun t183 => (if (t183.length : Int) = 2 then (if 0 < (t183.length : Int) then (if ((rd_T26 t183 0).f1).toList = ([97, 32] : List UInt8) then (if 1 < (t183.length : Int) then (if ((rd_T26 t183 1).f0) = 3 then ((spanin_Clean.f k (⟨#[97]⟩ : ByteArray)).bind fun t188 => (if t188 = true then ((spanin_Ticks.f k (⟨#[97, 96, 96]⟩ : ByteArray) 1).bind fun t189 => (some (t189 == 2))) else (some false))) else (some false)) else (none)) else (some false)) else (none)) else (some false))) = some r := h
 clear h
 replace H := Option.bind_eq_some_iff.mp H
 obtain ⟨t183, A10, H⟩ := H
 replace H : (if (t183.length : Int) = 2 then (if 0 < (t183.length : Int) then (if ((rd_T26 t183 0).f1).toList = ([97, 32] : List UInt8) then (if 1 < (t183.length : Int) then (if ((rd_T26 t183 1).f0) = 3 then ((spanin_Clean.f k (⟨#[97]⟩ : ByteArray)).bind fun t188 => (if t188 = true then ((spanin_Ticks.f k (⟨#[97, 96, 96]⟩ : ByteArray) 1).bind fun t189 => (some (t189 == 2))) else (some false))) else (some false)) else (none)) else (some false)) else (none)) else (some false)) = some r := H
 have A1 := Aside0.mk A10
 clear A10
 by_cases c2 : (t183.length : Int) = 2
 ·
  rw [if_pos c2] at H
  have c2b0 : ((t183.length : Int) == 2) = true := beq_iff_eq.mpr c2
  have c2b1 : ((t183.length : Int) != 2) = false := bne_eq_false_iff_eq.mpr c2
  clear c2
  by_cases c3 : 0 < (t183.length : Int)
  ·
   rw [if_pos c3] at H
   have c3b0 : decide (0 < (t183.length : Int)) = true := decide_eq_true c3
   have c3b1 : decide (0 < t183.length) = true := decide_eq_true (by omega)
   clear c3
   by_cases c4 : ((rd_T26 t183 0).f1).toList = ([97, 32] : List UInt8)
   ·
    rw [if_pos c4] at H
    have c4b0 : (((rd_T26 t183 0).f1).toList == ([97, 32] : List UInt8)) = true := beq_iff_eq.mpr c4
    have c4b1 : (((rd_T26 t183 0).f1).toList != ([97, 32] : List UInt8)) = false := bne_eq_false_iff_eq.mpr c4
    clear c4
    by_cases c5 : 1 < (t183.length : Int)
    ·
     rw [if_pos c5] at H
     have c5b0 : decide (1 < (t183.length : Int)) = true := decide_eq_true c5
     have c5b1 : decide (1 < t183.length) = true := decide_eq_true (by omega)
     clear c5
     by_cases c6 : ((rd_T26 t183 1).f0) = 3
     ·
      rw [if_pos c6] at H
      have c6b0 : (((rd_T26 t183 1).f0) == 3) = true := beq_iff_eq.mpr c6
      have c6b1 : (((rd_T26 t183 1).f0) != 3) = false := bne_eq_false_iff_eq.mpr c6
      clear c6
      replace H := Option.bind_eq_some_iff.mp H
      obtain ⟨t188, A70, H⟩ := H
      replace H : (if t188 = true then ((spanin_Ticks.f k (⟨#[97, 96, 96]⟩ : ByteArray) 1).bind fun t189 => (some (t189 == 2))) else (some false)) = some r := H
      have A7 := Aside0.mk A70
      clear A70
      by_cases c8 : t188 = true
      ·
       subst c8
       have H1 : ((spanin_Ticks.f k (⟨#[97, 96, 96]⟩ : ByteArray) 1).bind fun t189 => (some (t189 == 2))) = some r := by rw [if_pos rfl] at H; exact H
       clear H
       have H := H1
       clear H1
       replace H := Option.bind_eq_some_iff.mp H
       obtain ⟨t189, A90, H⟩ := H
       replace H : (some (t189 == 2)) = some r := H
       have A9 := Aside0.mk A90
       clear A90
       obtain rfl := Option.some.inj H
       go_enter Tryd.func19, Tryd.ntmps19
       go_wp2_with (first | ((with_reducible refine gate_callee (f := 21) rfl ?_); refine goesL_ (some 2) rfl rfl Tryd.func21 (by kernel_rfl) rfl #[.string (⟨#[97, 32, 42, 98, 42]⟩ : ByteArray)] rfl (by (try simp only [List.map_toArray, List.map_cons, List.map_nil]); first | done | rfl | (simp only [List.length_drop, List.length_take]; rfl)) ?_; (with_reducible refine (spanin_Parse.calls (⟨#[97, 32, 42, 98, 42]⟩ : ByteArray) t183 _ ?side1 A1.out).mono ?_); (case side1 => first | exact HT.out | exact Tabs.at HT.out (by repeat (with_reducible first | exact HB.out | apply below_alloc | apply pw_below_drewN | apply below_drew1))); rintro e w10 ⟨v184, rfl, ho0, hb⟩; refine ⟨_, rfl, ?_⟩; have n0_ := Aside0.mk (Kd.R_lower ho0 (below_size (by repeat (with_reducible first | exact HB.out | apply below_alloc | apply pw_below_drewN | apply below_drew1)))); have n1_ := Aside0.mk (below_step (by repeat (with_reducible first | exact HB.out | apply below_alloc | apply pw_below_drewN | apply below_drew1)) hb); clear HB; have HO185 := n0_; have HB := n1_; clear n0_ n1_; (try clear hb); (try clear hb2); (try clear hk); (try clear hi); (try clear ho0); obtain ⟨Ao11, co11, eo11⟩ := Kd.R_slice HO185.out; subst eo11; have p186 : 0 ≤ (0 : Int) := (by omega); have q186 : 0 < (t183.length : Int) := of_decide_eq_true (by first | (with_reducible assumption) | assumption); obtain ⟨ad186, A186_2, c186_2, e186, hx186_0, hx186_1, hx186_2, hl186_2, hi186_2⟩ := at_T26 (Kd.R_reads' HO185.out).2.2 0 p186 q186; cases e186; obtain ⟨ce186, hce186, hMe186, hcc186⟩ := Kd.R_get HO185.out z26 0 p186 (by first | exact q186 | exact of_decide_eq_true (by first | (with_reducible assumption) | assumption) | (have e_ := (Kd.R_reads' HO185.out).1; omega)); obtain ⟨ve186_2, rfl, ge186_2⟩ := k26_openM hMe186; have hv186_2 := hcc186 2 _ rfl; rw [add_field _ _ 2 (by omega)] at hv186_2; replace hv186_2 := Option.some.inj (hv186_2.symm.trans hx186_2); rw [hv186_2] at ge186_2; have HL186_2 := Aside0.mk (show Kd.R k26 26 _ _ _ _ ((rd_T26 t183 0).f2) from ge186_2); clear hv186_2 ge186_2; clear hcc186 hce186; have qi186 : (0 < t183.length) = True := eq_true (by omega); (try rw [show ((0 : Int)).toNat = 0 from rfl] at hx186_0); (try rw [show 0 * 3 = 0 from rfl] at hx186_0); (try rw [Addr.add_zero'] at hx186_0); (try rw [show ((0 : Int)).toNat = 0 from rfl] at hx186_1); (try rw [show 0 * 3 = 0 from rfl] at hx186_1); (try rw [Addr.add_zero'] at hx186_1); (try rw [show ((0 : Int)).toNat = 0 from rfl] at hx186_2); (try rw [show 0 * 3 = 0 from rfl] at hx186_2); (try rw [Addr.add_zero'] at hx186_2); have HR186_2 := Aside0.mk hi186_2; have HC186_2 := Aside0.mk hl186_2; clear hi186_2 hl186_2; replace p186 := eq_true p186; replace q186 := eq_true q186; have p187 : 0 ≤ (1 : Int) := (by omega); have q187 : 1 < (t183.length : Int) := of_decide_eq_true (by first | (with_reducible assumption) | assumption); obtain ⟨ad187, A187_2, c187_2, e187, hx187_0, hx187_1, hx187_2, hl187_2, hi187_2⟩ := at_T26 (Kd.R_reads' HO185.out).2.2 1 p187 q187; obtain rfl : ad186 = ad187 := (by injection e187); obtain ⟨ce187, hce187, hMe187, hcc187⟩ := Kd.R_get HO185.out z26 1 p187 (by first | exact q187 | exact of_decide_eq_true (by first | (with_reducible assumption) | assumption) | (have e_ := (Kd.R_reads' HO185.out).1; omega)); obtain ⟨ve187_2, rfl, ge187_2⟩ := k26_openM hMe187; have hv187_2 := hcc187 2 _ rfl; rw [add_field _ _ 2 (by omega)] at hv187_2; replace hv187_2 := Option.some.inj (hv187_2.symm.trans hx187_2); rw [hv187_2] at ge187_2; have HL187_2 := Aside0.mk (show Kd.R k26 26 _ _ _ _ ((rd_T26 t183 1).f2) from ge187_2); clear hv187_2 ge187_2; clear hcc187 hce187; (try simp only [show (1 : Int).toNat = 1 from rfl, Nat.reduceMul, Nat.reduceEqDiff, Go.Addr.add, ↓reduceIte] at hx187_0); (try simp only [show (1 : Int).toNat = 1 from rfl, Nat.reduceMul, Nat.reduceEqDiff, Go.Addr.add, ↓reduceIte] at hx187_1); (try simp only [show (1 : Int).toNat = 1 from rfl, Nat.reduceMul, Nat.reduceEqDiff, Go.Addr.add, ↓reduceIte] at hx187_2); have qi187 : (1 < t183.length) = True := eq_true (by omega); (try rw [show ((1 : Int)).toNat = 1 from rfl] at hx187_0); (try rw [show 1 * 3 = 3 from rfl] at hx187_0); (try rw [show ((1 : Int)).toNat = 1 from rfl] at hx187_1); (try rw [show 1 * 3 = 3 from rfl] at hx187_1); (try rw [show ((1 : Int)).toNat = 1 from rfl] at hx187_2); (try rw [show 1 * 3 = 3 from rfl] at hx187_2); have HR187_2 := Aside0.mk hi187_2; have HC187_2 := Aside0.mk hl187_2; clear hi187_2 hl187_2; replace p187 := eq_true p187; replace q187 := eq_true q187; have tkA7 : True := trivial) | (go_at_call 23; clear tkA7; (with_reducible refine (spanin_Clean.calls k (⟨#[97]⟩ : ByteArray) true _ ?side1 A7.out).mono ?_); (case side1 => first | exact HT.out | exact Tabs.at HT.out (by repeat (with_reducible first | exact HB.out | apply below_alloc | apply pw_below_drewN | apply below_drew1))); rintro e w12 ⟨rfl, hb⟩; have n0_ := Aside0.mk (Kd.R_below (by (with_reducible repeat (first | apply Kd.R_alloc | apply Kd.R_drewN | apply Kd.R_drew)); exact HO185.out) hb); have n1_ := Aside0.mk (Kd.R_below (by (with_reducible repeat (first | apply Kd.R_alloc | apply Kd.R_drewN | apply Kd.R_drew)); exact HL186_2.out) hb); have n2_ := Aside0.mk (Kd.R_below (by (with_reducible repeat (first | apply Kd.R_alloc | apply Kd.R_drewN | apply Kd.R_drew)); exact HL187_2.out) hb); have n3_ := Aside0.mk (Kd.C_below (by repeat (first | (with_reducible exact HR186_2.out) | (with_reducible refine Kd.C_alloc ?_ _) | (with_reducible refine Kd.C_drewN ?_ _) | (with_reducible refine Kd.C_drew ?_) | exact HR186_2.out)) hb); have n4_ := Aside0.mk (Kd.C_below (by repeat (first | (with_reducible exact HR187_2.out) | (with_reducible refine Kd.C_alloc ?_ _) | (with_reducible refine Kd.C_drewN ?_ _) | (with_reducible refine Kd.C_drew ?_) | exact HR187_2.out)) hb); have n5_ := Aside0.mk (below_step (by repeat (with_reducible first | exact HB.out | apply below_alloc | apply pw_below_drewN | apply below_drew1)) hb); clear HO185; clear HL186_2; clear HL187_2; clear HR186_2; clear HR187_2; clear HB; have HO185 := n0_; have HL186_2 := n1_; have HL187_2 := n2_; have HR186_2 := n3_; have HR187_2 := n4_; have HB := n5_; clear n0_ n1_ n2_ n3_ n4_ n5_; (try clear hb); (try clear hb2); (try clear hk); (try clear hi); have tkA9 : True := trivial) | (go_at_call 25; clear tkA9; (with_reducible refine (spanin_Ticks.calls k (⟨#[97, 96, 96]⟩ : ByteArray) 1 t189 _ A9.out).mono ?_); rintro e w' ⟨rfl, ⟨nd, rfl⟩⟩))
       go_ret
       exact ⟨by first | rfl | (simp [errW_none, errW_some] <;> rfl) | (simp [*, errW_none, errW_some] <;> rfl), by repeat (with_reducible first | exact HB.out | apply below_alloc | apply pw_below_drewN | apply below_drew1)⟩
      ·
       replace c8 := Bool.eq_false_iff.mpr c8
       subst c8
       have H1 : (some false) = some r := by rw [if_neg (show ¬ (false = true) by decide)] at H; exact H
       clear H
       have H := H1
       clear H1
       obtain rfl := Option.some.inj H
       go_enter Tryd.func19, Tryd.ntmps19
       go_wp2_with (first | ((with_reducible refine gate_callee (f := 21) rfl ?_); refine goesL_ (some 2) rfl rfl Tryd.func21 (by kernel_rfl) rfl #[.string (⟨#[97, 32, 42, 98, 42]⟩ : ByteArray)] rfl (by (try simp only [List.map_toArray, List.map_cons, List.map_nil]); first | done | rfl | (simp only [List.length_drop, List.length_take]; rfl)) ?_; (with_reducible refine (spanin_Parse.calls (⟨#[97, 32, 42, 98, 42]⟩ : ByteArray) t183 _ ?side1 A1.out).mono ?_); (case side1 => first | exact HT.out | exact Tabs.at HT.out (by repeat (with_reducible first | exact HB.out | apply below_alloc | apply pw_below_drewN | apply below_drew1))); rintro e w13 ⟨v184, rfl, ho0, hb⟩; refine ⟨_, rfl, ?_⟩; have n0_ := Aside0.mk (Kd.R_lower ho0 (below_size (by repeat (with_reducible first | exact HB.out | apply below_alloc | apply pw_below_drewN | apply below_drew1)))); have n1_ := Aside0.mk (below_step (by repeat (with_reducible first | exact HB.out | apply below_alloc | apply pw_below_drewN | apply below_drew1)) hb); clear HB; have HO185 := n0_; have HB := n1_; clear n0_ n1_; (try clear hb); (try clear hb2); (try clear hk); (try clear hi); (try clear ho0); obtain ⟨Ao14, co14, eo14⟩ := Kd.R_slice HO185.out; subst eo14; have p186 : 0 ≤ (0 : Int) := (by omega); have q186 : 0 < (t183.length : Int) := of_decide_eq_true (by first | (with_reducible assumption) | assumption); obtain ⟨ad186, A186_2, c186_2, e186, hx186_0, hx186_1, hx186_2, hl186_2, hi186_2⟩ := at_T26 (Kd.R_reads' HO185.out).2.2 0 p186 q186; cases e186; obtain ⟨ce186, hce186, hMe186, hcc186⟩ := Kd.R_get HO185.out z26 0 p186 (by first | exact q186 | exact of_decide_eq_true (by first | (with_reducible assumption) | assumption) | (have e_ := (Kd.R_reads' HO185.out).1; omega)); obtain ⟨ve186_2, rfl, ge186_2⟩ := k26_openM hMe186; have hv186_2 := hcc186 2 _ rfl; rw [add_field _ _ 2 (by omega)] at hv186_2; replace hv186_2 := Option.some.inj (hv186_2.symm.trans hx186_2); rw [hv186_2] at ge186_2; have HL186_2 := Aside0.mk (show Kd.R k26 26 _ _ _ _ ((rd_T26 t183 0).f2) from ge186_2); clear hv186_2 ge186_2; clear hcc186 hce186; have qi186 : (0 < t183.length) = True := eq_true (by omega); (try rw [show ((0 : Int)).toNat = 0 from rfl] at hx186_0); (try rw [show 0 * 3 = 0 from rfl] at hx186_0); (try rw [Addr.add_zero'] at hx186_0); (try rw [show ((0 : Int)).toNat = 0 from rfl] at hx186_1); (try rw [show 0 * 3 = 0 from rfl] at hx186_1); (try rw [Addr.add_zero'] at hx186_1); (try rw [show ((0 : Int)).toNat = 0 from rfl] at hx186_2); (try rw [show 0 * 3 = 0 from rfl] at hx186_2); (try rw [Addr.add_zero'] at hx186_2); have HR186_2 := Aside0.mk hi186_2; have HC186_2 := Aside0.mk hl186_2; clear hi186_2 hl186_2; replace p186 := eq_true p186; replace q186 := eq_true q186; have p187 : 0 ≤ (1 : Int) := (by omega); have q187 : 1 < (t183.length : Int) := of_decide_eq_true (by first | (with_reducible assumption) | assumption); obtain ⟨ad187, A187_2, c187_2, e187, hx187_0, hx187_1, hx187_2, hl187_2, hi187_2⟩ := at_T26 (Kd.R_reads' HO185.out).2.2 1 p187 q187; obtain rfl : ad186 = ad187 := (by injection e187); obtain ⟨ce187, hce187, hMe187, hcc187⟩ := Kd.R_get HO185.out z26 1 p187 (by first | exact q187 | exact of_decide_eq_true (by first | (with_reducible assumption) | assumption) | (have e_ := (Kd.R_reads' HO185.out).1; omega)); obtain ⟨ve187_2, rfl, ge187_2⟩ := k26_openM hMe187; have hv187_2 := hcc187 2 _ rfl; rw [add_field _ _ 2 (by omega)] at hv187_2; replace hv187_2 := Option.some.inj (hv187_2.symm.trans hx187_2); rw [hv187_2] at ge187_2; have HL187_2 := Aside0.mk (show Kd.R k26 26 _ _ _ _ ((rd_T26 t183 1).f2) from ge187_2); clear hv187_2 ge187_2; clear hcc187 hce187; (try simp only [show (1 : Int).toNat = 1 from rfl, Nat.reduceMul, Nat.reduceEqDiff, Go.Addr.add, ↓reduceIte] at hx187_0); (try simp only [show (1 : Int).toNat = 1 from rfl, Nat.reduceMul, Nat.reduceEqDiff, Go.Addr.add, ↓reduceIte] at hx187_1); (try simp only [show (1 : Int).toNat = 1 from rfl, Nat.reduceMul, Nat.reduceEqDiff, Go.Addr.add, ↓reduceIte] at hx187_2); have qi187 : (1 < t183.length) = True := eq_true (by omega); (try rw [show ((1 : Int)).toNat = 1 from rfl] at hx187_0); (try rw [show 1 * 3 = 3 from rfl] at hx187_0); (try rw [show ((1 : Int)).toNat = 1 from rfl] at hx187_1); (try rw [show 1 * 3 = 3 from rfl] at hx187_1); (try rw [show ((1 : Int)).toNat = 1 from rfl] at hx187_2); (try rw [show 1 * 3 = 3 from rfl] at hx187_2); have HR187_2 := Aside0.mk hi187_2; have HC187_2 := Aside0.mk hl187_2; clear hi187_2 hl187_2; replace p187 := eq_true p187; replace q187 := eq_true q187; have tkA7 : True := trivial) | (go_at_call 23; clear tkA7; (with_reducible refine (spanin_Clean.calls k (⟨#[97]⟩ : ByteArray) false _ ?side1 A7.out).mono ?_); (case side1 => first | exact HT.out | exact Tabs.at HT.out (by repeat (with_reducible first | exact HB.out | apply below_alloc | apply pw_below_drewN | apply below_drew1))); rintro e w15 ⟨rfl, hb⟩; have n0_ := Aside0.mk (Kd.R_below (by (with_reducible repeat (first | apply Kd.R_alloc | apply Kd.R_drewN | apply Kd.R_drew)); exact HO185.out) hb); have n1_ := Aside0.mk (Kd.R_below (by (with_reducible repeat (first | apply Kd.R_alloc | apply Kd.R_drewN | apply Kd.R_drew)); exact HL186_2.out) hb); have n2_ := Aside0.mk (Kd.R_below (by (with_reducible repeat (first | apply Kd.R_alloc | apply Kd.R_drewN | apply Kd.R_drew)); exact HL187_2.out) hb); have n3_ := Aside0.mk (Kd.C_below (by repeat (first | (with_reducible exact HR186_2.out) | (with_reducible refine Kd.C_alloc ?_ _) | (with_reducible refine Kd.C_drewN ?_ _) | (with_reducible refine Kd.C_drew ?_) | exact HR186_2.out)) hb); have n4_ := Aside0.mk (Kd.C_below (by repeat (first | (with_reducible exact HR187_2.out) | (with_reducible refine Kd.C_alloc ?_ _) | (with_reducible refine Kd.C_drewN ?_ _) | (with_reducible refine Kd.C_drew ?_) | exact HR187_2.out)) hb); have n5_ := Aside0.mk (below_step (by repeat (with_reducible first | exact HB.out | apply below_alloc | apply pw_below_drewN | apply below_drew1)) hb); clear HO185; clear HL186_2; clear HL187_2; clear HR186_2; clear HR187_2; clear HB; have HO185 := n0_; have HL186_2 := n1_; have HL187_2 := n2_; have HR186_2 := n3_; have HR187_2 := n4_; have HB := n5_; clear n0_ n1_ n2_ n3_ n4_ n5_; (try clear hb); (try clear hb2); (try clear hk); (try clear hi)))
       go_ret
       exact ⟨by first | rfl | (simp [errW_none, errW_some] <;> rfl) | (simp [*, errW_none, errW_some] <;> rfl), by repeat (with_reducible first | exact HB.out | apply below_alloc | apply pw_below_drewN | apply below_drew1)⟩
     ·
      rw [if_neg c6] at H
      have c6b0 : (((rd_T26 t183 1).f0) == 3) = false := beq_eq_false_iff_ne.mpr c6
      have c6b1 : (((rd_T26 t183 1).f0) != 3) = true := bne_iff_ne.mpr c6
      obtain rfl := Option.some.inj H
      go_enter Tryd.func19, Tryd.ntmps19
      go_wp2_with (first | ((with_reducible refine gate_callee (f := 21) rfl ?_); refine goesL_ (some 2) rfl rfl Tryd.func21 (by kernel_rfl) rfl #[.string (⟨#[97, 32, 42, 98, 42]⟩ : ByteArray)] rfl (by (try simp only [List.map_toArray, List.map_cons, List.map_nil]); first | done | rfl | (simp only [List.length_drop, List.length_take]; rfl)) ?_; (with_reducible refine (spanin_Parse.calls (⟨#[97, 32, 42, 98, 42]⟩ : ByteArray) t183 _ ?side1 A1.out).mono ?_); (case side1 => first | exact HT.out | exact Tabs.at HT.out (by repeat (with_reducible first | exact HB.out | apply below_alloc | apply pw_below_drewN | apply below_drew1))); rintro e w16 ⟨v184, rfl, ho0, hb⟩; refine ⟨_, rfl, ?_⟩; have n0_ := Aside0.mk (Kd.R_lower ho0 (below_size (by repeat (with_reducible first | exact HB.out | apply below_alloc | apply pw_below_drewN | apply below_drew1)))); have n1_ := Aside0.mk (below_step (by repeat (with_reducible first | exact HB.out | apply below_alloc | apply pw_below_drewN | apply below_drew1)) hb); clear HB; have HO185 := n0_; have HB := n1_; clear n0_ n1_; (try clear hb); (try clear hb2); (try clear hk); (try clear hi); (try clear ho0); obtain ⟨Ao17, co17, eo17⟩ := Kd.R_slice HO185.out; subst eo17; have p186 : 0 ≤ (0 : Int) := (by omega); have q186 : 0 < (t183.length : Int) := of_decide_eq_true (by first | (with_reducible assumption) | assumption); obtain ⟨ad186, A186_2, c186_2, e186, hx186_0, hx186_1, hx186_2, hl186_2, hi186_2⟩ := at_T26 (Kd.R_reads' HO185.out).2.2 0 p186 q186; cases e186; obtain ⟨ce186, hce186, hMe186, hcc186⟩ := Kd.R_get HO185.out z26 0 p186 (by first | exact q186 | exact of_decide_eq_true (by first | (with_reducible assumption) | assumption) | (have e_ := (Kd.R_reads' HO185.out).1; omega)); obtain ⟨ve186_2, rfl, ge186_2⟩ := k26_openM hMe186; have hv186_2 := hcc186 2 _ rfl; rw [add_field _ _ 2 (by omega)] at hv186_2; replace hv186_2 := Option.some.inj (hv186_2.symm.trans hx186_2); rw [hv186_2] at ge186_2; have HL186_2 := Aside0.mk (show Kd.R k26 26 _ _ _ _ ((rd_T26 t183 0).f2) from ge186_2); clear hv186_2 ge186_2; clear hcc186 hce186; have qi186 : (0 < t183.length) = True := eq_true (by omega); (try rw [show ((0 : Int)).toNat = 0 from rfl] at hx186_0); (try rw [show 0 * 3 = 0 from rfl] at hx186_0); (try rw [Addr.add_zero'] at hx186_0); (try rw [show ((0 : Int)).toNat = 0 from rfl] at hx186_1); (try rw [show 0 * 3 = 0 from rfl] at hx186_1); (try rw [Addr.add_zero'] at hx186_1); (try rw [show ((0 : Int)).toNat = 0 from rfl] at hx186_2); (try rw [show 0 * 3 = 0 from rfl] at hx186_2); (try rw [Addr.add_zero'] at hx186_2); have HR186_2 := Aside0.mk hi186_2; have HC186_2 := Aside0.mk hl186_2; clear hi186_2 hl186_2; replace p186 := eq_true p186; replace q186 := eq_true q186; have p187 : 0 ≤ (1 : Int) := (by omega); have q187 : 1 < (t183.length : Int) := of_decide_eq_true (by first | (with_reducible assumption) | assumption); obtain ⟨ad187, A187_2, c187_2, e187, hx187_0, hx187_1, hx187_2, hl187_2, hi187_2⟩ := at_T26 (Kd.R_reads' HO185.out).2.2 1 p187 q187; obtain rfl : ad186 = ad187 := (by injection e187); obtain ⟨ce187, hce187, hMe187, hcc187⟩ := Kd.R_get HO185.out z26 1 p187 (by first | exact q187 | exact of_decide_eq_true (by first | (with_reducible assumption) | assumption) | (have e_ := (Kd.R_reads' HO185.out).1; omega)); obtain ⟨ve187_2, rfl, ge187_2⟩ := k26_openM hMe187; have hv187_2 := hcc187 2 _ rfl; rw [add_field _ _ 2 (by omega)] at hv187_2; replace hv187_2 := Option.some.inj (hv187_2.symm.trans hx187_2); rw [hv187_2] at ge187_2; have HL187_2 := Aside0.mk (show Kd.R k26 26 _ _ _ _ ((rd_T26 t183 1).f2) from ge187_2); clear hv187_2 ge187_2; clear hcc187 hce187; (try simp only [show (1 : Int).toNat = 1 from rfl, Nat.reduceMul, Nat.reduceEqDiff, Go.Addr.add, ↓reduceIte] at hx187_0); (try simp only [show (1 : Int).toNat = 1 from rfl, Nat.reduceMul, Nat.reduceEqDiff, Go.Addr.add, ↓reduceIte] at hx187_1); (try simp only [show (1 : Int).toNat = 1 from rfl, Nat.reduceMul, Nat.reduceEqDiff, Go.Addr.add, ↓reduceIte] at hx187_2); have qi187 : (1 < t183.length) = True := eq_true (by omega); (try rw [show ((1 : Int)).toNat = 1 from rfl] at hx187_0); (try rw [show 1 * 3 = 3 from rfl] at hx187_0); (try rw [show ((1 : Int)).toNat = 1 from rfl] at hx187_1); (try rw [show 1 * 3 = 3 from rfl] at hx187_1); (try rw [show ((1 : Int)).toNat = 1 from rfl] at hx187_2); (try rw [show 1 * 3 = 3 from rfl] at hx187_2); have HR187_2 := Aside0.mk hi187_2; have HC187_2 := Aside0.mk hl187_2; clear hi187_2 hl187_2; replace p187 := eq_true p187; replace q187 := eq_true q187))
      go_ret
      exact ⟨by first | rfl | (simp [errW_none, errW_some] <;> rfl) | (simp [*, errW_none, errW_some] <;> rfl), by repeat (with_reducible first | exact HB.out | apply below_alloc | apply pw_below_drewN | apply below_drew1)⟩
    ·
     rw [if_neg c5] at H
     exact absurd H (by simp)
   ·
    rw [if_neg c4] at H
    have c4b0 : (((rd_T26 t183 0).f1).toList == ([97, 32] : List UInt8)) = false := beq_eq_false_iff_ne.mpr c4
    have c4b1 : (((rd_T26 t183 0).f1).toList != ([97, 32] : List UInt8)) = true := bne_iff_ne.mpr c4
    obtain rfl := Option.some.inj H
    go_enter Tryd.func19, Tryd.ntmps19
    go_wp2_with (first | ((with_reducible refine gate_callee (f := 21) rfl ?_); refine goesL_ (some 2) rfl rfl Tryd.func21 (by kernel_rfl) rfl #[.string (⟨#[97, 32, 42, 98, 42]⟩ : ByteArray)] rfl (by (try simp only [List.map_toArray, List.map_cons, List.map_nil]); first | done | rfl | (simp only [List.length_drop, List.length_take]; rfl)) ?_; (with_reducible refine (spanin_Parse.calls (⟨#[97, 32, 42, 98, 42]⟩ : ByteArray) t183 _ ?side1 A1.out).mono ?_); (case side1 => first | exact HT.out | exact Tabs.at HT.out (by repeat (with_reducible first | exact HB.out | apply below_alloc | apply pw_below_drewN | apply below_drew1))); rintro e w18 ⟨v184, rfl, ho0, hb⟩; refine ⟨_, rfl, ?_⟩; have n0_ := Aside0.mk (Kd.R_lower ho0 (below_size (by repeat (with_reducible first | exact HB.out | apply below_alloc | apply pw_below_drewN | apply below_drew1)))); have n1_ := Aside0.mk (below_step (by repeat (with_reducible first | exact HB.out | apply below_alloc | apply pw_below_drewN | apply below_drew1)) hb); clear HB; have HO185 := n0_; have HB := n1_; clear n0_ n1_; (try clear hb); (try clear hb2); (try clear hk); (try clear hi); (try clear ho0); obtain ⟨Ao19, co19, eo19⟩ := Kd.R_slice HO185.out; subst eo19; have p186 : 0 ≤ (0 : Int) := (by omega); have q186 : 0 < (t183.length : Int) := of_decide_eq_true (by first | (with_reducible assumption) | assumption); obtain ⟨ad186, A186_2, c186_2, e186, hx186_0, hx186_1, hx186_2, hl186_2, hi186_2⟩ := at_T26 (Kd.R_reads' HO185.out).2.2 0 p186 q186; cases e186; obtain ⟨ce186, hce186, hMe186, hcc186⟩ := Kd.R_get HO185.out z26 0 p186 (by first | exact q186 | exact of_decide_eq_true (by first | (with_reducible assumption) | assumption) | (have e_ := (Kd.R_reads' HO185.out).1; omega)); obtain ⟨ve186_2, rfl, ge186_2⟩ := k26_openM hMe186; have hv186_2 := hcc186 2 _ rfl; rw [add_field _ _ 2 (by omega)] at hv186_2; replace hv186_2 := Option.some.inj (hv186_2.symm.trans hx186_2); rw [hv186_2] at ge186_2; have HL186_2 := Aside0.mk (show Kd.R k26 26 _ _ _ _ ((rd_T26 t183 0).f2) from ge186_2); clear hv186_2 ge186_2; clear hcc186 hce186; have qi186 : (0 < t183.length) = True := eq_true (by omega); (try rw [show ((0 : Int)).toNat = 0 from rfl] at hx186_0); (try rw [show 0 * 3 = 0 from rfl] at hx186_0); (try rw [Addr.add_zero'] at hx186_0); (try rw [show ((0 : Int)).toNat = 0 from rfl] at hx186_1); (try rw [show 0 * 3 = 0 from rfl] at hx186_1); (try rw [Addr.add_zero'] at hx186_1); (try rw [show ((0 : Int)).toNat = 0 from rfl] at hx186_2); (try rw [show 0 * 3 = 0 from rfl] at hx186_2); (try rw [Addr.add_zero'] at hx186_2); have HR186_2 := Aside0.mk hi186_2; have HC186_2 := Aside0.mk hl186_2; clear hi186_2 hl186_2; replace p186 := eq_true p186; replace q186 := eq_true q186))
    go_ret
    exact ⟨by first | rfl | (simp [errW_none, errW_some] <;> rfl) | (simp [*, errW_none, errW_some] <;> rfl), by repeat (with_reducible first | exact HB.out | apply below_alloc | apply pw_below_drewN | apply below_drew1)⟩
  ·
   rw [if_neg c3] at H
   exact absurd H (by simp)
 ·
  rw [if_neg c2] at H
  have c2b0 : ((t183.length : Int) == 2) = false := beq_eq_false_iff_ne.mpr c2
  have c2b1 : ((t183.length : Int) != 2) = true := bne_iff_ne.mpr c2
  obtain rfl := Option.some.inj H
  go_enter Tryd.func19, Tryd.ntmps19
  go_wp2_with (first | ((with_reducible refine gate_callee (f := 21) rfl ?_); refine goesL_ (some 2) rfl rfl Tryd.func21 (by kernel_rfl) rfl #[.string (⟨#[97, 32, 42, 98, 42]⟩ : ByteArray)] rfl (by (try simp only [List.map_toArray, List.map_cons, List.map_nil]); first | done | rfl | (simp only [List.length_drop, List.length_take]; rfl)) ?_; (with_reducible refine (spanin_Parse.calls (⟨#[97, 32, 42, 98, 42]⟩ : ByteArray) t183 _ ?side1 A1.out).mono ?_); (case side1 => first | exact HT.out | exact Tabs.at HT.out (by repeat (with_reducible first | exact HB.out | apply below_alloc | apply pw_below_drewN | apply below_drew1))); rintro e w20 ⟨v184, rfl, ho0, hb⟩; refine ⟨_, rfl, ?_⟩; have n0_ := Aside0.mk (Kd.R_lower ho0 (below_size (by repeat (with_reducible first | exact HB.out | apply below_alloc | apply pw_below_drewN | apply below_drew1)))); have n1_ := Aside0.mk (below_step (by repeat (with_reducible first | exact HB.out | apply below_alloc | apply pw_below_drewN | apply below_drew1)) hb); clear HB; have HO185 := n0_; have HB := n1_; clear n0_ n1_; (try clear hb); (try clear hb2); (try clear hk); (try clear hi); (try clear ho0); obtain ⟨Ao21, co21, eo21⟩ := Kd.R_slice HO185.out; subst eo21))
  go_ret
  exact ⟨by first | rfl | (simp [errW_none, errW_some] <;> rfl) | (simp [*, errW_none, errW_some] <;> rfl), by repeat (with_reducible first | exact HB.out | apply below_alloc | apply pw_below_drewN | apply below_drew1)⟩

-- GIVEN: function 20 (emendationref07_Same)

-- GIVEN: function 44 (emendationref08_read)

end Go.Proofs.YtmfffpfenhgjbaaDoor.X
