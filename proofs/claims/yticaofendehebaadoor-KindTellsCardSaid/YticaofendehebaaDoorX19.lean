-- Written by a program of this session (wip/mkprint.py over the kit's print) out of the translation; Lean checks it.
import Derived.Test.YticaofendehebaaDoorX0
import Derived.Test.YticaofendehebaaDoorX11
import Derived.Test.YticaofendehebaaDoorX13
import Derived.Test.YticaofendehebaaDoorX14
import Derived.Test.YticaofendehebaaDoorX18
import Derived.Test.YticaofendehebaaDoorX7
import Derived.Test.YticaofendehebaaDoorX9
import Derived.Test.YticaofendehebaaDoorGivenTabs
namespace Go.Proofs.YticaofendehebaaDoorW.PrintWords.Kd
open Go.RowKit
section
variable {α : Type} {d : Kd α} {e base n cc g : Nat} {ok ok' okp S : Nat → Prop} {w w1 W W1 : World} {A : Option Addr} {u v v1 : Value} {xs : List α} {x : α} {c : List Value}
theorem N_F {n : Nat} (h : N d e w base ok (.slice A n cc) xs) : F d w ok A n xs := fun W' hW => by
  have h2 := N_reads' (N_step h hW)
  rw [h2.1]
  exact h2.2.2
theorem N_old (h : N d e W base ok v xs) (hb : Below W.heap.size W w1) : N d e w1 base (fun k => ok k ∧ k < W.heap.size) v xs := N_below (N_bound h) hb
theorem N_told {b : Nat} (h : N d e w1 base (fun k => ok k ∧ k < b) v xs) (hbase : ∀ k, u.ownBlock = some k → b ≤ k) : N d e w1 base (fun k => (ok k ∧ some k ≠ u.ownBlock) ∧ k < b) v xs :=
  N_mono h (fun k hk => ⟨⟨hk.1, fun e => Nat.lt_irrefl _ (Nat.lt_of_lt_of_le hk.2 (hbase k e.symm))⟩, hk.2⟩)
end
end Go.Proofs.YticaofendehebaaDoorW.PrintWords.Kd
namespace Go.Proofs.YticaofendehebaaDoor.X
open Go.RowKit Go.Proofs.YticaofendehebaaDoor.G Go.Proofs.YticaofendehebaaDoorW.PrintWords Go.Proofs.YticaofendehebaaDoorW.PrintLast Go.Proofs.YticaofendehebaaDoorW.PrintMore
attribute [local go_sem] max2_int min2_int max_two min_two max_three min_three max_four min_four   -- for this text's walks alone
set_option linter.unusedVariables false
set_option linter.unusedSimpArgs false

/-! ### emendationlaw11_KindTells: function 7 -/
mutual
def emendationlaw11_KindTells.j0 : Nat → ByteArray → Int → Bool → Option (Bool)
 | 0, _, _, _ => none
 | k + 1, x0, x1, x23 => if x23 = true then ((emendationlaw11_awake.f k).bind fun t251 => (some t251)) else ((kind_Head.f k x0).bind fun bt252 => ((emendationref11_Head.f k x0).bind fun bt254 => ((kind_Open.f k x0).bind fun bt256 => ((emendationref11_Open.f k x0).bind fun bt258 => ((kind_Inner.f x0).bind fun bt260 => ((emendationref11_Inner.f k x0).bind fun bt262 => ((kind_Of.f k x0).bind fun t264 => ((emendationref11_Of.f k x0).bind fun t265 => (if t264 = t265 then (if bt252.1 = bt254.1 then (if bt252.2.toList = bt254.2.toList then (if bt256.1 = bt258.1 then (if bt256.2.toList = bt258.2.toList then (if bt260.1.toList = bt262.1.toList then (emendationlaw11_KindTells.j1 k x0 x1 (bt260.2 != bt262.2)) else (emendationlaw11_KindTells.j1 k x0 x1 true)) else (emendationlaw11_KindTells.j1 k x0 x1 true)) else (emendationlaw11_KindTells.j1 k x0 x1 true)) else (emendationlaw11_KindTells.j1 k x0 x1 true)) else (emendationlaw11_KindTells.j1 k x0 x1 true)) else (emendationlaw11_KindTells.j1 k x0 x1 true))))))))))
def emendationlaw11_KindTells.j1 : Nat → ByteArray → Int → Bool → Option (Bool)
 | 0, _, _, _ => none
 | k + 1, x0, x1, x89 => if x89 = true then (some false) else ((kind_Closes.f k x0 x1).bind fun t266 => ((emendationref11_Closes.f k x0 x1).bind fun t267 => (if (t266 == t267) = true then ((kind_Unquote.f k x0).bind fun t268 => ((emendationref11_Unquote.f k x0).bind fun t269 => (if t268.toList = t269.toList then ((kind_Unitem.f k x0).bind fun t270 => ((emendationref11_Unitem.f k x0).bind fun t271 => (if t270.toList = t271.toList then ((kind_Define.f k x0).bind fun bt272 => ((emendationref11_Define.f k x0).bind fun bt287 => ((emendationref10_Same.f k (([(⟨bt272.1, bt272.2.1, bt272.2.2.1, bt272.2.2.2.1, bt272.2.2.2.2.1, bt272.2.2.2.2.2⟩ : S32)] : List (S32))) (([(⟨bt287.1, bt287.2.1, bt287.2.2.1, bt287.2.2.2.1, bt287.2.2.2.2.1, bt287.2.2.2.2.2⟩ : S32)] : List (S32)))).bind fun t302 => (some t302)))) else (some false)))) else (some false)))) else (some false))))
end
def emendationlaw11_KindTells.f (k : Nat) (a0 : ByteArray) (a1 : Int) : Option (Bool) := (emendationlaw11_awake.f k).bind fun t250 => (if t250 = true then (emendationlaw11_KindTells.j0 k a0 a1 (decide ((a0.size : Int) > 1000))) else (emendationlaw11_KindTells.j0 k a0 a1 true))
set_option maxHeartbeats 8000000 in
set_option maxRecDepth 100000 in
theorem emendationlaw11_KindTells.calls (k : Nat) (a0 : ByteArray) (a1 : Int) (r : Bool) (w : World) (hT : Tabs w) (h : emendationlaw11_KindTells.f k a0 a1 = some r) :
  Calls Tryd.prog 7 #[.string a0, .int .i64 a1] w fun e w' => e = .returned (.bool r) ∧ Below w.heap.size w w' := by
 have HT := Aside0.mk hT
 clear hT
 have HB := Aside0.mk (Below.refl w.heap.size w)
 have H : ((emendationlaw11_awake.f k).bind fun t250 => (if t250 = true then (emendationlaw11_KindTells.j0 k a0 a1 (decide ((a0.size : Int) > 1000))) else (emendationlaw11_KindTells.j0 k a0 a1 true))) = some r := h
 clear h
 have HC3 := Aside0.mk H
 clear H
 go_enter Tryd.func7, Tryd.ntmps7
 go_upto_region 1 with (fail)
 go_cut [23] (fun v23 wc => ∃ (kq : Nat) (x23_2 : Bool), v23 = .bool x23_2 ∧ Aside0 (emendationlaw11_KindTells.j0 kq a0 a1 x23_2 = some r) ∧ Aside0 (kq ≤ k) ∧ Aside0 (Below w.heap.size w wc))
 case first =>
  have H := HC3.out
  clear HC3
  replace H := Option.bind_eq_some_iff.mp H
  obtain ⟨t250, A40, H⟩ := H
  replace H : (if t250 = true then (emendationlaw11_KindTells.j0 k a0 a1 (decide ((a0.size : Int) > 1000))) else (emendationlaw11_KindTells.j0 k a0 a1 true)) = some r := H
  have A4 := Aside0.mk A40
  clear A40
  by_cases c5 : t250 = true
  ·
   subst c5
   have H1 : (emendationlaw11_KindTells.j0 k a0 a1 (decide ((a0.size : Int) > 1000))) = some r := by rw [if_pos rfl] at H; exact H
   clear H
   have H := H1
   clear H1
   have H' := Aside0.mk H
   clear H
   go_wp2_with (first | ((with_reducible refine gate_callee (f := 8) rfl ?_); refine goesL_ (some 17) rfl rfl Tryd.func8 (by kernel_rfl) rfl #[] rfl (by (try simp only [List.map_toArray, List.map_cons, List.map_nil]); first | done | rfl | (simp only [List.length_drop, List.length_take]; rfl)) ?_; (with_reducible refine (emendationlaw11_awake.calls k  true _ ?side1 A4.out).mono ?_); (case side1 => first | exact HT.out | exact Tabs.at HT.out (by repeat (with_reducible first | exact HB.out | apply below_alloc | apply pw_below_drewN | apply below_drew1))); rintro e w6 ⟨rfl, hb⟩; refine ⟨_, rfl, ?_⟩; have n0_ := Aside0.mk (below_step (by repeat (with_reducible first | exact HB.out | apply below_alloc | apply pw_below_drewN | apply below_drew1)) hb); clear HB; have HB := n0_; clear n0_; (try clear hb); (try clear hb2); (try clear hk); (try clear hi)))
   go_meet
   case rel => exact ⟨_, (decide ((a0.size : Int) > 1000)), (by first | rfl | (simp; done) | (simp [*]; done) | (simp [bne, beq_nil_E]; done)), H', ⟨by first | omega | exact Nat.le_refl _⟩, ⟨by repeat (with_reducible first | exact HB.out | apply below_alloc | apply pw_below_drewN | apply below_drew1)⟩⟩
  ·
   replace c5 := Bool.eq_false_iff.mpr c5
   subst c5
   have H1 : (emendationlaw11_KindTells.j0 k a0 a1 true) = some r := by rw [if_neg (show ¬ (false = true) by decide)] at H; exact H
   clear H
   have H := H1
   clear H1
   have H' := Aside0.mk H
   clear H
   go_wp2_with (first | ((with_reducible refine gate_callee (f := 8) rfl ?_); refine goesL_ (some 17) rfl rfl Tryd.func8 (by kernel_rfl) rfl #[] rfl (by (try simp only [List.map_toArray, List.map_cons, List.map_nil]); first | done | rfl | (simp only [List.length_drop, List.length_take]; rfl)) ?_; (with_reducible refine (emendationlaw11_awake.calls k  false _ ?side1 A4.out).mono ?_); (case side1 => first | exact HT.out | exact Tabs.at HT.out (by repeat (with_reducible first | exact HB.out | apply below_alloc | apply pw_below_drewN | apply below_drew1))); rintro e w7 ⟨rfl, hb⟩; refine ⟨_, rfl, ?_⟩; have n0_ := Aside0.mk (below_step (by repeat (with_reducible first | exact HB.out | apply below_alloc | apply pw_below_drewN | apply below_drew1)) hb); clear HB; have HB := n0_; clear n0_; (try clear hb); (try clear hb2); (try clear hk); (try clear hi)))
   go_meet
   case rel => exact ⟨_, (true), (by first | rfl | (simp; done) | (simp [*]; done) | (simp [bne, beq_nil_E]; done)), H', ⟨by first | omega | exact Nat.le_refl _⟩, ⟨by repeat (with_reducible first | exact HB.out | apply below_alloc | apply pw_below_drewN | apply below_drew1)⟩⟩
 case rest =>
  clear HC3
  try clear p2
  try clear c5
  try clear c7
  obtain ⟨kq, x23_2, rfl, HA, HJ2, HB⟩ := hcut
  cases kq with
  | zero => exact absurd HA.out (by simp [emendationlaw11_KindTells.j0])
  | succ kj2 =>
   have H := HA.out
   clear HA
   simp only [emendationlaw11_KindTells.j0] at H
   by_cases c8 : x23_2 = true
   ·
    subst c8
    have H1 : ((emendationlaw11_awake.f kj2).bind fun t251 => (some t251)) = some r := by rw [if_pos rfl] at H; exact H
    clear H
    have H := H1
    clear H1
    replace H := Option.bind_eq_some_iff.mp H
    obtain ⟨t251, A90, H⟩ := H
    replace H : (some t251) = some r := H
    have A9 := Aside0.mk A90
    clear A90
    obtain rfl := Option.some.inj H
    go_wp2_with (first | ((with_reducible refine gate_callee (f := 8) rfl ?_); refine goesL_ (some 24) rfl rfl Tryd.func8 (by kernel_rfl) rfl #[] rfl (by (try simp only [List.map_toArray, List.map_cons, List.map_nil]); first | done | rfl | (simp only [List.length_drop, List.length_take]; rfl)) ?_; (with_reducible refine (emendationlaw11_awake.calls kj2  t251 _ ?side1 A9.out).mono ?_); (case side1 => first | exact HT.out | exact Tabs.at HT.out (by repeat (with_reducible first | exact HB.out | apply below_alloc | apply pw_below_drewN | apply below_drew1))); rintro e w10 ⟨rfl, hb⟩; refine ⟨_, rfl, ?_⟩; have n0_ := Aside0.mk (below_step (by repeat (with_reducible first | exact HB.out | apply below_alloc | apply pw_below_drewN | apply below_drew1)) hb); clear HB; have HB := n0_; clear n0_; (try clear hb); (try clear hb2); (try clear hk); (try clear hi)))
    go_ret
    exact ⟨by first | rfl | (simp [errW_none, errW_some] <;> rfl) | (simp [*, errW_none, errW_some] <;> rfl), by repeat (with_reducible first | exact HB.out | apply below_alloc | apply pw_below_drewN | apply below_drew1)⟩
   ·
    replace c8 := Bool.eq_false_iff.mpr c8
    subst c8
    have H1 : ((kind_Head.f kj2 a0).bind fun bt252 => ((emendationref11_Head.f kj2 a0).bind fun bt254 => ((kind_Open.f kj2 a0).bind fun bt256 => ((emendationref11_Open.f kj2 a0).bind fun bt258 => ((kind_Inner.f a0).bind fun bt260 => ((emendationref11_Inner.f kj2 a0).bind fun bt262 => ((kind_Of.f kj2 a0).bind fun t264 => ((emendationref11_Of.f kj2 a0).bind fun t265 => (if t264 = t265 then (if bt252.1 = bt254.1 then (if bt252.2.toList = bt254.2.toList then (if bt256.1 = bt258.1 then (if bt256.2.toList = bt258.2.toList then (if bt260.1.toList = bt262.1.toList then (emendationlaw11_KindTells.j1 kj2 a0 a1 (bt260.2 != bt262.2)) else (emendationlaw11_KindTells.j1 kj2 a0 a1 true)) else (emendationlaw11_KindTells.j1 kj2 a0 a1 true)) else (emendationlaw11_KindTells.j1 kj2 a0 a1 true)) else (emendationlaw11_KindTells.j1 kj2 a0 a1 true)) else (emendationlaw11_KindTells.j1 kj2 a0 a1 true)) else (emendationlaw11_KindTells.j1 kj2 a0 a1 true)))))))))) = some r := by rw [if_neg (show ¬ (false = true) by decide)] at H; exact H
    clear H
    have H := H1
    clear H1
    replace H := Option.bind_eq_some_iff.mp H
    obtain ⟨⟨t252, t253⟩, A110, H⟩ := H
    replace H : ((emendationref11_Head.f kj2 a0).bind fun bt254 => ((kind_Open.f kj2 a0).bind fun bt256 => ((emendationref11_Open.f kj2 a0).bind fun bt258 => ((kind_Inner.f a0).bind fun bt260 => ((emendationref11_Inner.f kj2 a0).bind fun bt262 => ((kind_Of.f kj2 a0).bind fun t264 => ((emendationref11_Of.f kj2 a0).bind fun t265 => (if t264 = t265 then (if t252 = bt254.1 then (if t253.toList = bt254.2.toList then (if bt256.1 = bt258.1 then (if bt256.2.toList = bt258.2.toList then (if bt260.1.toList = bt262.1.toList then (emendationlaw11_KindTells.j1 kj2 a0 a1 (bt260.2 != bt262.2)) else (emendationlaw11_KindTells.j1 kj2 a0 a1 true)) else (emendationlaw11_KindTells.j1 kj2 a0 a1 true)) else (emendationlaw11_KindTells.j1 kj2 a0 a1 true)) else (emendationlaw11_KindTells.j1 kj2 a0 a1 true)) else (emendationlaw11_KindTells.j1 kj2 a0 a1 true)) else (emendationlaw11_KindTells.j1 kj2 a0 a1 true))))))))) = some r := H
    have A11 := Aside0.mk A110
    clear A110
    replace H := Option.bind_eq_some_iff.mp H
    obtain ⟨⟨t254, t255⟩, A120, H⟩ := H
    replace H : ((kind_Open.f kj2 a0).bind fun bt256 => ((emendationref11_Open.f kj2 a0).bind fun bt258 => ((kind_Inner.f a0).bind fun bt260 => ((emendationref11_Inner.f kj2 a0).bind fun bt262 => ((kind_Of.f kj2 a0).bind fun t264 => ((emendationref11_Of.f kj2 a0).bind fun t265 => (if t264 = t265 then (if t252 = t254 then (if t253.toList = t255.toList then (if bt256.1 = bt258.1 then (if bt256.2.toList = bt258.2.toList then (if bt260.1.toList = bt262.1.toList then (emendationlaw11_KindTells.j1 kj2 a0 a1 (bt260.2 != bt262.2)) else (emendationlaw11_KindTells.j1 kj2 a0 a1 true)) else (emendationlaw11_KindTells.j1 kj2 a0 a1 true)) else (emendationlaw11_KindTells.j1 kj2 a0 a1 true)) else (emendationlaw11_KindTells.j1 kj2 a0 a1 true)) else (emendationlaw11_KindTells.j1 kj2 a0 a1 true)) else (emendationlaw11_KindTells.j1 kj2 a0 a1 true)))))))) = some r := H
    have A12 := Aside0.mk A120
    clear A120
    replace H := Option.bind_eq_some_iff.mp H
    obtain ⟨⟨t256, t257⟩, A130, H⟩ := H
    replace H : ((emendationref11_Open.f kj2 a0).bind fun bt258 => ((kind_Inner.f a0).bind fun bt260 => ((emendationref11_Inner.f kj2 a0).bind fun bt262 => ((kind_Of.f kj2 a0).bind fun t264 => ((emendationref11_Of.f kj2 a0).bind fun t265 => (if t264 = t265 then (if t252 = t254 then (if t253.toList = t255.toList then (if t256 = bt258.1 then (if t257.toList = bt258.2.toList then (if bt260.1.toList = bt262.1.toList then (emendationlaw11_KindTells.j1 kj2 a0 a1 (bt260.2 != bt262.2)) else (emendationlaw11_KindTells.j1 kj2 a0 a1 true)) else (emendationlaw11_KindTells.j1 kj2 a0 a1 true)) else (emendationlaw11_KindTells.j1 kj2 a0 a1 true)) else (emendationlaw11_KindTells.j1 kj2 a0 a1 true)) else (emendationlaw11_KindTells.j1 kj2 a0 a1 true)) else (emendationlaw11_KindTells.j1 kj2 a0 a1 true))))))) = some r := H
    have A13 := Aside0.mk A130
    clear A130
    replace H := Option.bind_eq_some_iff.mp H
    obtain ⟨⟨t258, t259⟩, A140, H⟩ := H
    replace H : ((kind_Inner.f a0).bind fun bt260 => ((emendationref11_Inner.f kj2 a0).bind fun bt262 => ((kind_Of.f kj2 a0).bind fun t264 => ((emendationref11_Of.f kj2 a0).bind fun t265 => (if t264 = t265 then (if t252 = t254 then (if t253.toList = t255.toList then (if t256 = t258 then (if t257.toList = t259.toList then (if bt260.1.toList = bt262.1.toList then (emendationlaw11_KindTells.j1 kj2 a0 a1 (bt260.2 != bt262.2)) else (emendationlaw11_KindTells.j1 kj2 a0 a1 true)) else (emendationlaw11_KindTells.j1 kj2 a0 a1 true)) else (emendationlaw11_KindTells.j1 kj2 a0 a1 true)) else (emendationlaw11_KindTells.j1 kj2 a0 a1 true)) else (emendationlaw11_KindTells.j1 kj2 a0 a1 true)) else (emendationlaw11_KindTells.j1 kj2 a0 a1 true)))))) = some r := H
    have A14 := Aside0.mk A140
    clear A140
    replace H := Option.bind_eq_some_iff.mp H
    obtain ⟨⟨t260, t261⟩, A150, H⟩ := H
    replace H : ((emendationref11_Inner.f kj2 a0).bind fun bt262 => ((kind_Of.f kj2 a0).bind fun t264 => ((emendationref11_Of.f kj2 a0).bind fun t265 => (if t264 = t265 then (if t252 = t254 then (if t253.toList = t255.toList then (if t256 = t258 then (if t257.toList = t259.toList then (if t260.toList = bt262.1.toList then (emendationlaw11_KindTells.j1 kj2 a0 a1 (t261 != bt262.2)) else (emendationlaw11_KindTells.j1 kj2 a0 a1 true)) else (emendationlaw11_KindTells.j1 kj2 a0 a1 true)) else (emendationlaw11_KindTells.j1 kj2 a0 a1 true)) else (emendationlaw11_KindTells.j1 kj2 a0 a1 true)) else (emendationlaw11_KindTells.j1 kj2 a0 a1 true)) else (emendationlaw11_KindTells.j1 kj2 a0 a1 true))))) = some r := H
    have A15 := Aside0.mk A150
    clear A150
    replace H := Option.bind_eq_some_iff.mp H
    obtain ⟨⟨t262, t263⟩, A160, H⟩ := H
    replace H : ((kind_Of.f kj2 a0).bind fun t264 => ((emendationref11_Of.f kj2 a0).bind fun t265 => (if t264 = t265 then (if t252 = t254 then (if t253.toList = t255.toList then (if t256 = t258 then (if t257.toList = t259.toList then (if t260.toList = t262.toList then (emendationlaw11_KindTells.j1 kj2 a0 a1 (t261 != t263)) else (emendationlaw11_KindTells.j1 kj2 a0 a1 true)) else (emendationlaw11_KindTells.j1 kj2 a0 a1 true)) else (emendationlaw11_KindTells.j1 kj2 a0 a1 true)) else (emendationlaw11_KindTells.j1 kj2 a0 a1 true)) else (emendationlaw11_KindTells.j1 kj2 a0 a1 true)) else (emendationlaw11_KindTells.j1 kj2 a0 a1 true)))) = some r := H
    have A16 := Aside0.mk A160
    clear A160
    have HC17 := Aside0.mk H
    clear H
    go_upto_region 9 with (first | ((with_reducible refine gate_callee (f := 10) rfl ?_); refine goesL_ (some 27) rfl rfl Tryd.func10 (by kernel_rfl) rfl #[.string a0] rfl (by (try simp only [List.map_toArray, List.map_cons, List.map_nil]); first | done | rfl | (simp only [List.length_drop, List.length_take]; rfl)) ?_; (with_reducible refine (kind_Head.calls kj2 a0 t252 t253 _ ?side1 A11.out).mono ?_); (case side1 => first | exact HT.out | exact Tabs.at HT.out (by repeat (with_reducible first | exact HB.out | apply below_alloc | apply pw_below_drewN | apply below_drew1))); rintro e w18 ⟨rfl, hb⟩; refine ⟨_, rfl, ?_⟩; have n0_ := Aside0.mk (below_step (by repeat (with_reducible first | exact HB.out | apply below_alloc | apply pw_below_drewN | apply below_drew1)) hb); clear HB; have HB := n0_; clear n0_; (try clear hb); (try clear hb2); (try clear hk); (try clear hi)) | ((with_reducible refine gate_callee (f := 18) rfl ?_); refine goesL_ (some 32) rfl rfl Tryd.func18 (by kernel_rfl) rfl #[.string a0] rfl (by (try simp only [List.map_toArray, List.map_cons, List.map_nil]); first | done | rfl | (simp only [List.length_drop, List.length_take]; rfl)) ?_; (with_reducible refine (emendationref11_Head.calls kj2 a0 t254 t255 _ A12.out).mono ?_); rintro e w19 ⟨rfl, hb⟩; refine ⟨_, rfl, ?_⟩; have n0_ := Aside0.mk (below_step (by repeat (with_reducible first | exact HB.out | apply below_alloc | apply pw_below_drewN | apply below_drew1)) hb); clear HB; have HB := n0_; clear n0_; (try clear hb); (try clear hb2); (try clear hk); (try clear hi)) | ((with_reducible refine gate_callee (f := 13) rfl ?_); refine goesL_ (some 37) rfl rfl Tryd.func13 (by kernel_rfl) rfl #[.string a0] rfl (by (try simp only [List.map_toArray, List.map_cons, List.map_nil]); first | done | rfl | (simp only [List.length_drop, List.length_take]; rfl)) ?_; (with_reducible refine (kind_Open.calls kj2 a0 t256 t257 _ ?side1 A13.out).mono ?_); (case side1 => first | exact HT.out | exact Tabs.at HT.out (by repeat (with_reducible first | exact HB.out | apply below_alloc | apply pw_below_drewN | apply below_drew1))); rintro e w20 ⟨rfl, hb⟩; refine ⟨_, rfl, ?_⟩; have n0_ := Aside0.mk (below_step (by repeat (with_reducible first | exact HB.out | apply below_alloc | apply pw_below_drewN | apply below_drew1)) hb); clear HB; have HB := n0_; clear n0_; (try clear hb); (try clear hb2); (try clear hk); (try clear hi)) | ((with_reducible refine gate_callee (f := 19) rfl ?_); refine goesL_ (some 42) rfl rfl Tryd.func19 (by kernel_rfl) rfl #[.string a0] rfl (by (try simp only [List.map_toArray, List.map_cons, List.map_nil]); first | done | rfl | (simp only [List.length_drop, List.length_take]; rfl)) ?_; (with_reducible refine (emendationref11_Open.calls kj2 a0 t258 t259 _ A14.out).mono ?_); rintro e w21 ⟨rfl, hb⟩; refine ⟨_, rfl, ?_⟩; have n0_ := Aside0.mk (below_step (by repeat (with_reducible first | exact HB.out | apply below_alloc | apply pw_below_drewN | apply below_drew1)) hb); clear HB; have HB := n0_; clear n0_; (try clear hb); (try clear hb2); (try clear hk); (try clear hi)) | ((with_reducible refine gate_callee (f := 15) rfl ?_); refine goesL_ (some 47) rfl rfl Tryd.func15 (by kernel_rfl) rfl #[.string a0] rfl (by (try simp only [List.map_toArray, List.map_cons, List.map_nil]); first | done | rfl | (simp only [List.length_drop, List.length_take]; rfl)) ?_; (with_reducible refine (kind_Inner.calls a0 t260 t261 _ A15.out).mono ?_); rintro e w22 ⟨rfl, hb⟩; refine ⟨_, rfl, ?_⟩; have n0_ := Aside0.mk (below_step (by repeat (with_reducible first | exact HB.out | apply below_alloc | apply pw_below_drewN | apply below_drew1)) hb); clear HB; have HB := n0_; clear n0_; (try clear hb); (try clear hb2); (try clear hk); (try clear hi)) | ((with_reducible refine gate_callee (f := 20) rfl ?_); refine goesL_ (some 52) rfl rfl Tryd.func20 (by kernel_rfl) rfl #[.string a0] rfl (by (try simp only [List.map_toArray, List.map_cons, List.map_nil]); first | done | rfl | (simp only [List.length_drop, List.length_take]; rfl)) ?_; (with_reducible refine (emendationref11_Inner.calls kj2 a0 t262 t263 _ A16.out).mono ?_); rintro e w' ⟨rfl, ⟨nd, rfl⟩⟩; refine ⟨_, rfl, ?_⟩))
    (try simp only [Act.put, List.setIfInBounds_toArray, List.set_cons_zero, List.set_cons_succ])
    go_cut [89] (fun v89 wc => ∃ (kq : Nat) (x89_16 : Bool), v89 = .bool x89_16 ∧ Aside0 (emendationlaw11_KindTells.j1 kq a0 a1 x89_16 = some r) ∧ Aside0 (kq ≤ kj2) ∧ Aside0 (Below w.heap.size w wc))
    case first =>
     have H := HC17.out
     clear HC17
     replace H := Option.bind_eq_some_iff.mp H
     obtain ⟨t264, A230, H⟩ := H
     replace H : ((emendationref11_Of.f kj2 a0).bind fun t265 => (if t264 = t265 then (if t252 = t254 then (if t253.toList = t255.toList then (if t256 = t258 then (if t257.toList = t259.toList then (if t260.toList = t262.toList then (emendationlaw11_KindTells.j1 kj2 a0 a1 (t261 != t263)) else (emendationlaw11_KindTells.j1 kj2 a0 a1 true)) else (emendationlaw11_KindTells.j1 kj2 a0 a1 true)) else (emendationlaw11_KindTells.j1 kj2 a0 a1 true)) else (emendationlaw11_KindTells.j1 kj2 a0 a1 true)) else (emendationlaw11_KindTells.j1 kj2 a0 a1 true)) else (emendationlaw11_KindTells.j1 kj2 a0 a1 true))) = some r := H
     have A23 := Aside0.mk A230
     clear A230
     replace H := Option.bind_eq_some_iff.mp H
     obtain ⟨t265, A240, H⟩ := H
     replace H : (if t264 = t265 then (if t252 = t254 then (if t253.toList = t255.toList then (if t256 = t258 then (if t257.toList = t259.toList then (if t260.toList = t262.toList then (emendationlaw11_KindTells.j1 kj2 a0 a1 (t261 != t263)) else (emendationlaw11_KindTells.j1 kj2 a0 a1 true)) else (emendationlaw11_KindTells.j1 kj2 a0 a1 true)) else (emendationlaw11_KindTells.j1 kj2 a0 a1 true)) else (emendationlaw11_KindTells.j1 kj2 a0 a1 true)) else (emendationlaw11_KindTells.j1 kj2 a0 a1 true)) else (emendationlaw11_KindTells.j1 kj2 a0 a1 true)) = some r := H
     have A24 := Aside0.mk A240
     clear A240
     by_cases c25 : t264 = t265
     ·
      rw [if_pos c25] at H
      have c25b0 : (t264 == t265) = true := beq_iff_eq.mpr c25
      have c25b1 : (t264 != t265) = false := bne_eq_false_iff_eq.mpr c25
      clear c25
      (first | rw [c25b0] | (simp only [i64_w, i32_w]; rw [c25b0]) | skip)
      by_cases c26 : t252 = t254
      ·
       rw [if_pos c26] at H
       have c26b0 : (t252 == t254) = true := beq_iff_eq.mpr c26
       have c26b1 : (t252 != t254) = false := bne_eq_false_iff_eq.mpr c26
       clear c26
       by_cases c27 : t253.toList = t255.toList
       ·
        rw [if_pos c27] at H
        have c27b0 : (t253.toList == t255.toList) = true := beq_iff_eq.mpr c27
        have c27b1 : (t253.toList != t255.toList) = false := bne_eq_false_iff_eq.mpr c27
        clear c27
        by_cases c28 : t256 = t258
        ·
         rw [if_pos c28] at H
         have c28b0 : (t256 == t258) = true := beq_iff_eq.mpr c28
         have c28b1 : (t256 != t258) = false := bne_eq_false_iff_eq.mpr c28
         clear c28
         by_cases c29 : t257.toList = t259.toList
         ·
          rw [if_pos c29] at H
          have c29b0 : (t257.toList == t259.toList) = true := beq_iff_eq.mpr c29
          have c29b1 : (t257.toList != t259.toList) = false := bne_eq_false_iff_eq.mpr c29
          clear c29
          by_cases c30 : t260.toList = t262.toList
          ·
           rw [if_pos c30] at H
           have c30b0 : (t260.toList == t262.toList) = true := beq_iff_eq.mpr c30
           have c30b1 : (t260.toList != t262.toList) = false := bne_eq_false_iff_eq.mpr c30
           clear c30
           have H' := Aside0.mk H
           clear H
           go_wp2_with (first | ((with_reducible refine gate_callee (f := 9) rfl ?_); refine goesL_ (some 56) rfl rfl Tryd.func9 (by kernel_rfl) rfl #[.string a0] rfl (by (try simp only [List.map_toArray, List.map_cons, List.map_nil]); first | done | rfl | (simp only [List.length_drop, List.length_take]; rfl)) ?_; (with_reducible refine (kind_Of.calls kj2 a0 t264 _ ?side1 A23.out).mono ?_); (case side1 => first | exact HT.out | exact Tabs.at HT.out (by repeat (with_reducible first | exact HB.out | apply below_alloc | apply pw_below_drewN | apply below_drew1))); rintro e w31 ⟨rfl, hb⟩; refine ⟨_, rfl, ?_⟩; have n0_ := Aside0.mk (below_step (by repeat (with_reducible first | exact HB.out | apply below_alloc | apply pw_below_drewN | apply below_drew1)) hb); clear HB; have HB := n0_; clear n0_; (try clear hb); (try clear hb2); (try clear hk); (try clear hi)) | ((with_reducible refine gate_callee (f := 21) rfl ?_); refine goesL_ (some 58) rfl rfl Tryd.func21 (by kernel_rfl) rfl #[.string a0] rfl (by (try simp only [List.map_toArray, List.map_cons, List.map_nil]); first | done | rfl | (simp only [List.length_drop, List.length_take]; rfl)) ?_; (with_reducible refine (emendationref11_Of.calls kj2 a0 t265 _ A24.out).mono ?_); rintro e w32 ⟨rfl, hb⟩; refine ⟨_, rfl, ?_⟩; have n0_ := Aside0.mk (below_step (by repeat (with_reducible first | exact HB.out | apply below_alloc | apply pw_below_drewN | apply below_drew1)) hb); clear HB; have HB := n0_; clear n0_; (try clear hb); (try clear hb2); (try clear hk); (try clear hi)))
           go_meet
           case rel => exact ⟨_, ((t261 != t263)), (by first | rfl | (simp; done) | (simp [*]; done) | (simp [bne, beq_nil_E]; done)), H', ⟨by have := HJ2.out; first | omega | exact Nat.le_refl _⟩, ⟨by repeat (with_reducible first | exact HB.out | apply below_alloc | apply pw_below_drewN | apply below_drew1)⟩⟩
          ·
           rw [if_neg c30] at H
           have c30b0 : (t260.toList == t262.toList) = false := beq_eq_false_iff_ne.mpr c30
           have c30b1 : (t260.toList != t262.toList) = true := bne_iff_ne.mpr c30
           have H' := Aside0.mk H
           clear H
           go_wp2_with (first | ((with_reducible refine gate_callee (f := 9) rfl ?_); refine goesL_ (some 56) rfl rfl Tryd.func9 (by kernel_rfl) rfl #[.string a0] rfl (by (try simp only [List.map_toArray, List.map_cons, List.map_nil]); first | done | rfl | (simp only [List.length_drop, List.length_take]; rfl)) ?_; (with_reducible refine (kind_Of.calls kj2 a0 t264 _ ?side1 A23.out).mono ?_); (case side1 => first | exact HT.out | exact Tabs.at HT.out (by repeat (with_reducible first | exact HB.out | apply below_alloc | apply pw_below_drewN | apply below_drew1))); rintro e w33 ⟨rfl, hb⟩; refine ⟨_, rfl, ?_⟩; have n0_ := Aside0.mk (below_step (by repeat (with_reducible first | exact HB.out | apply below_alloc | apply pw_below_drewN | apply below_drew1)) hb); clear HB; have HB := n0_; clear n0_; (try clear hb); (try clear hb2); (try clear hk); (try clear hi)) | ((with_reducible refine gate_callee (f := 21) rfl ?_); refine goesL_ (some 58) rfl rfl Tryd.func21 (by kernel_rfl) rfl #[.string a0] rfl (by (try simp only [List.map_toArray, List.map_cons, List.map_nil]); first | done | rfl | (simp only [List.length_drop, List.length_take]; rfl)) ?_; (with_reducible refine (emendationref11_Of.calls kj2 a0 t265 _ A24.out).mono ?_); rintro e w34 ⟨rfl, hb⟩; refine ⟨_, rfl, ?_⟩; have n0_ := Aside0.mk (below_step (by repeat (with_reducible first | exact HB.out | apply below_alloc | apply pw_below_drewN | apply below_drew1)) hb); clear HB; have HB := n0_; clear n0_; (try clear hb); (try clear hb2); (try clear hk); (try clear hi)))
           go_meet
           case rel => exact ⟨_, (true), (by first | rfl | (simp; done) | (simp [*]; done) | (simp [bne, beq_nil_E]; done)), H', ⟨by have := HJ2.out; first | omega | exact Nat.le_refl _⟩, ⟨by repeat (with_reducible first | exact HB.out | apply below_alloc | apply pw_below_drewN | apply below_drew1)⟩⟩
         ·
          rw [if_neg c29] at H
          have c29b0 : (t257.toList == t259.toList) = false := beq_eq_false_iff_ne.mpr c29
          have c29b1 : (t257.toList != t259.toList) = true := bne_iff_ne.mpr c29
          have H' := Aside0.mk H
          clear H
          go_wp2_with (first | ((with_reducible refine gate_callee (f := 9) rfl ?_); refine goesL_ (some 56) rfl rfl Tryd.func9 (by kernel_rfl) rfl #[.string a0] rfl (by (try simp only [List.map_toArray, List.map_cons, List.map_nil]); first | done | rfl | (simp only [List.length_drop, List.length_take]; rfl)) ?_; (with_reducible refine (kind_Of.calls kj2 a0 t264 _ ?side1 A23.out).mono ?_); (case side1 => first | exact HT.out | exact Tabs.at HT.out (by repeat (with_reducible first | exact HB.out | apply below_alloc | apply pw_below_drewN | apply below_drew1))); rintro e w35 ⟨rfl, hb⟩; refine ⟨_, rfl, ?_⟩; have n0_ := Aside0.mk (below_step (by repeat (with_reducible first | exact HB.out | apply below_alloc | apply pw_below_drewN | apply below_drew1)) hb); clear HB; have HB := n0_; clear n0_; (try clear hb); (try clear hb2); (try clear hk); (try clear hi)) | ((with_reducible refine gate_callee (f := 21) rfl ?_); refine goesL_ (some 58) rfl rfl Tryd.func21 (by kernel_rfl) rfl #[.string a0] rfl (by (try simp only [List.map_toArray, List.map_cons, List.map_nil]); first | done | rfl | (simp only [List.length_drop, List.length_take]; rfl)) ?_; (with_reducible refine (emendationref11_Of.calls kj2 a0 t265 _ A24.out).mono ?_); rintro e w36 ⟨rfl, hb⟩; refine ⟨_, rfl, ?_⟩; have n0_ := Aside0.mk (below_step (by repeat (with_reducible first | exact HB.out | apply below_alloc | apply pw_below_drewN | apply below_drew1)) hb); clear HB; have HB := n0_; clear n0_; (try clear hb); (try clear hb2); (try clear hk); (try clear hi)))
          go_meet
          case rel => exact ⟨_, (true), (by first | rfl | (simp; done) | (simp [*]; done) | (simp [bne, beq_nil_E]; done)), H', ⟨by have := HJ2.out; first | omega | exact Nat.le_refl _⟩, ⟨by repeat (with_reducible first | exact HB.out | apply below_alloc | apply pw_below_drewN | apply below_drew1)⟩⟩
        ·
         rw [if_neg c28] at H
         have c28b0 : (t256 == t258) = false := beq_eq_false_iff_ne.mpr c28
         have c28b1 : (t256 != t258) = true := bne_iff_ne.mpr c28
         have H' := Aside0.mk H
         clear H
         go_wp2_with (first | ((with_reducible refine gate_callee (f := 9) rfl ?_); refine goesL_ (some 56) rfl rfl Tryd.func9 (by kernel_rfl) rfl #[.string a0] rfl (by (try simp only [List.map_toArray, List.map_cons, List.map_nil]); first | done | rfl | (simp only [List.length_drop, List.length_take]; rfl)) ?_; (with_reducible refine (kind_Of.calls kj2 a0 t264 _ ?side1 A23.out).mono ?_); (case side1 => first | exact HT.out | exact Tabs.at HT.out (by repeat (with_reducible first | exact HB.out | apply below_alloc | apply pw_below_drewN | apply below_drew1))); rintro e w37 ⟨rfl, hb⟩; refine ⟨_, rfl, ?_⟩; have n0_ := Aside0.mk (below_step (by repeat (with_reducible first | exact HB.out | apply below_alloc | apply pw_below_drewN | apply below_drew1)) hb); clear HB; have HB := n0_; clear n0_; (try clear hb); (try clear hb2); (try clear hk); (try clear hi)) | ((with_reducible refine gate_callee (f := 21) rfl ?_); refine goesL_ (some 58) rfl rfl Tryd.func21 (by kernel_rfl) rfl #[.string a0] rfl (by (try simp only [List.map_toArray, List.map_cons, List.map_nil]); first | done | rfl | (simp only [List.length_drop, List.length_take]; rfl)) ?_; (with_reducible refine (emendationref11_Of.calls kj2 a0 t265 _ A24.out).mono ?_); rintro e w38 ⟨rfl, hb⟩; refine ⟨_, rfl, ?_⟩; have n0_ := Aside0.mk (below_step (by repeat (with_reducible first | exact HB.out | apply below_alloc | apply pw_below_drewN | apply below_drew1)) hb); clear HB; have HB := n0_; clear n0_; (try clear hb); (try clear hb2); (try clear hk); (try clear hi)))
         go_meet
         case rel => exact ⟨_, (true), (by first | rfl | (simp; done) | (simp [*]; done) | (simp [bne, beq_nil_E]; done)), H', ⟨by have := HJ2.out; first | omega | exact Nat.le_refl _⟩, ⟨by repeat (with_reducible first | exact HB.out | apply below_alloc | apply pw_below_drewN | apply below_drew1)⟩⟩
       ·
        rw [if_neg c27] at H
        have c27b0 : (t253.toList == t255.toList) = false := beq_eq_false_iff_ne.mpr c27
        have c27b1 : (t253.toList != t255.toList) = true := bne_iff_ne.mpr c27
        have H' := Aside0.mk H
        clear H
        go_wp2_with (first | ((with_reducible refine gate_callee (f := 9) rfl ?_); refine goesL_ (some 56) rfl rfl Tryd.func9 (by kernel_rfl) rfl #[.string a0] rfl (by (try simp only [List.map_toArray, List.map_cons, List.map_nil]); first | done | rfl | (simp only [List.length_drop, List.length_take]; rfl)) ?_; (with_reducible refine (kind_Of.calls kj2 a0 t264 _ ?side1 A23.out).mono ?_); (case side1 => first | exact HT.out | exact Tabs.at HT.out (by repeat (with_reducible first | exact HB.out | apply below_alloc | apply pw_below_drewN | apply below_drew1))); rintro e w39 ⟨rfl, hb⟩; refine ⟨_, rfl, ?_⟩; have n0_ := Aside0.mk (below_step (by repeat (with_reducible first | exact HB.out | apply below_alloc | apply pw_below_drewN | apply below_drew1)) hb); clear HB; have HB := n0_; clear n0_; (try clear hb); (try clear hb2); (try clear hk); (try clear hi)) | ((with_reducible refine gate_callee (f := 21) rfl ?_); refine goesL_ (some 58) rfl rfl Tryd.func21 (by kernel_rfl) rfl #[.string a0] rfl (by (try simp only [List.map_toArray, List.map_cons, List.map_nil]); first | done | rfl | (simp only [List.length_drop, List.length_take]; rfl)) ?_; (with_reducible refine (emendationref11_Of.calls kj2 a0 t265 _ A24.out).mono ?_); rintro e w40 ⟨rfl, hb⟩; refine ⟨_, rfl, ?_⟩; have n0_ := Aside0.mk (below_step (by repeat (with_reducible first | exact HB.out | apply below_alloc | apply pw_below_drewN | apply below_drew1)) hb); clear HB; have HB := n0_; clear n0_; (try clear hb); (try clear hb2); (try clear hk); (try clear hi)))
        go_meet
        case rel => exact ⟨_, (true), (by first | rfl | (simp; done) | (simp [*]; done) | (simp [bne, beq_nil_E]; done)), H', ⟨by have := HJ2.out; first | omega | exact Nat.le_refl _⟩, ⟨by repeat (with_reducible first | exact HB.out | apply below_alloc | apply pw_below_drewN | apply below_drew1)⟩⟩
      ·
       rw [if_neg c26] at H
       have c26b0 : (t252 == t254) = false := beq_eq_false_iff_ne.mpr c26
       have c26b1 : (t252 != t254) = true := bne_iff_ne.mpr c26
       have H' := Aside0.mk H
       clear H
       go_wp2_with (first | ((with_reducible refine gate_callee (f := 9) rfl ?_); refine goesL_ (some 56) rfl rfl Tryd.func9 (by kernel_rfl) rfl #[.string a0] rfl (by (try simp only [List.map_toArray, List.map_cons, List.map_nil]); first | done | rfl | (simp only [List.length_drop, List.length_take]; rfl)) ?_; (with_reducible refine (kind_Of.calls kj2 a0 t264 _ ?side1 A23.out).mono ?_); (case side1 => first | exact HT.out | exact Tabs.at HT.out (by repeat (with_reducible first | exact HB.out | apply below_alloc | apply pw_below_drewN | apply below_drew1))); rintro e w41 ⟨rfl, hb⟩; refine ⟨_, rfl, ?_⟩; have n0_ := Aside0.mk (below_step (by repeat (with_reducible first | exact HB.out | apply below_alloc | apply pw_below_drewN | apply below_drew1)) hb); clear HB; have HB := n0_; clear n0_; (try clear hb); (try clear hb2); (try clear hk); (try clear hi)) | ((with_reducible refine gate_callee (f := 21) rfl ?_); refine goesL_ (some 58) rfl rfl Tryd.func21 (by kernel_rfl) rfl #[.string a0] rfl (by (try simp only [List.map_toArray, List.map_cons, List.map_nil]); first | done | rfl | (simp only [List.length_drop, List.length_take]; rfl)) ?_; (with_reducible refine (emendationref11_Of.calls kj2 a0 t265 _ A24.out).mono ?_); rintro e w42 ⟨rfl, hb⟩; refine ⟨_, rfl, ?_⟩; have n0_ := Aside0.mk (below_step (by repeat (with_reducible first | exact HB.out | apply below_alloc | apply pw_below_drewN | apply below_drew1)) hb); clear HB; have HB := n0_; clear n0_; (try clear hb); (try clear hb2); (try clear hk); (try clear hi)))
       go_meet
       case rel => exact ⟨_, (true), (by first | rfl | (simp; done) | (simp [*]; done) | (simp [bne, beq_nil_E]; done)), H', ⟨by have := HJ2.out; first | omega | exact Nat.le_refl _⟩, ⟨by repeat (with_reducible first | exact HB.out | apply below_alloc | apply pw_below_drewN | apply below_drew1)⟩⟩
     ·
      rw [if_neg c25] at H
      have c25b0 : (t264 == t265) = false := beq_eq_false_iff_ne.mpr c25
      have c25b1 : (t264 != t265) = true := bne_iff_ne.mpr c25
      (first | rw [c25b0] | (simp only [i64_w, i32_w]; rw [c25b0]) | skip)
      have H' := Aside0.mk H
      clear H
      go_wp2_with (first | ((with_reducible refine gate_callee (f := 9) rfl ?_); refine goesL_ (some 56) rfl rfl Tryd.func9 (by kernel_rfl) rfl #[.string a0] rfl (by (try simp only [List.map_toArray, List.map_cons, List.map_nil]); first | done | rfl | (simp only [List.length_drop, List.length_take]; rfl)) ?_; (with_reducible refine (kind_Of.calls kj2 a0 t264 _ ?side1 A23.out).mono ?_); (case side1 => first | exact HT.out | exact Tabs.at HT.out (by repeat (with_reducible first | exact HB.out | apply below_alloc | apply pw_below_drewN | apply below_drew1))); rintro e w43 ⟨rfl, hb⟩; refine ⟨_, rfl, ?_⟩; have n0_ := Aside0.mk (below_step (by repeat (with_reducible first | exact HB.out | apply below_alloc | apply pw_below_drewN | apply below_drew1)) hb); clear HB; have HB := n0_; clear n0_; (try clear hb); (try clear hb2); (try clear hk); (try clear hi)) | ((with_reducible refine gate_callee (f := 21) rfl ?_); refine goesL_ (some 58) rfl rfl Tryd.func21 (by kernel_rfl) rfl #[.string a0] rfl (by (try simp only [List.map_toArray, List.map_cons, List.map_nil]); first | done | rfl | (simp only [List.length_drop, List.length_take]; rfl)) ?_; (with_reducible refine (emendationref11_Of.calls kj2 a0 t265 _ A24.out).mono ?_); rintro e w44 ⟨rfl, hb⟩; refine ⟨_, rfl, ?_⟩; have n0_ := Aside0.mk (below_step (by repeat (with_reducible first | exact HB.out | apply below_alloc | apply pw_below_drewN | apply below_drew1)) hb); clear HB; have HB := n0_; clear n0_; (try clear hb); (try clear hb2); (try clear hk); (try clear hi)))
      go_meet
      case rel => exact ⟨_, (true), (by first | rfl | (simp; done) | (simp [*]; done) | (simp [bne, beq_nil_E]; done)), H', ⟨by have := HJ2.out; first | omega | exact Nat.le_refl _⟩, ⟨by repeat (with_reducible first | exact HB.out | apply below_alloc | apply pw_below_drewN | apply below_drew1)⟩⟩
    case rest =>
     clear HC17
     try clear c1
     try clear c2
     try clear p2
     try clear c3
     try clear c5
     try clear c7
     try clear c8
     try clear c9
     try clear c10
     try clear c13
     try clear c15
     try clear c18
     try clear c19
     try clear c20
     try clear c21
     try clear c25
     try clear c25b0
     try clear c25b1
     try clear c26
     try clear c26b0
     try clear c26b1
     try clear c27
     try clear c27b0
     try clear c27b1
     try clear c28
     try clear c28b0
     try clear c28b1
     try clear c29
     try clear c29b0
     try clear c29b1
     try clear c30
     try clear c30b0
     try clear c30b1
     try clear p2
     obtain ⟨kq, x89_16, rfl, HA, HJ16, HB⟩ := hcut
     cases kq with
     | zero => exact absurd HA.out (by simp [emendationlaw11_KindTells.j1])
     | succ kj16 =>
      have H := HA.out
      clear HA
      simp only [emendationlaw11_KindTells.j1] at H
      by_cases c45 : x89_16 = true
      ·
       subst c45
       have H1 : (some false) = some r := by rw [if_pos rfl] at H; exact H
       clear H
       have H := H1
       clear H1
       obtain rfl := Option.some.inj H
       go_wp2
       go_ret
       exact ⟨by first | rfl | (simp [errW_none, errW_some] <;> rfl) | (simp [*, errW_none, errW_some] <;> rfl), by repeat (with_reducible first | exact HB.out | apply below_alloc | apply pw_below_drewN | apply below_drew1)⟩
      ·
       replace c45 := Bool.eq_false_iff.mpr c45
       subst c45
       have H1 : ((kind_Closes.f kj16 a0 a1).bind fun t266 => ((emendationref11_Closes.f kj16 a0 a1).bind fun t267 => (if (t266 == t267) = true then ((kind_Unquote.f kj16 a0).bind fun t268 => ((emendationref11_Unquote.f kj16 a0).bind fun t269 => (if t268.toList = t269.toList then ((kind_Unitem.f kj16 a0).bind fun t270 => ((emendationref11_Unitem.f kj16 a0).bind fun t271 => (if t270.toList = t271.toList then ((kind_Define.f kj16 a0).bind fun bt272 => ((emendationref11_Define.f kj16 a0).bind fun bt287 => ((emendationref10_Same.f kj16 (([(⟨bt272.1, bt272.2.1, bt272.2.2.1, bt272.2.2.2.1, bt272.2.2.2.2.1, bt272.2.2.2.2.2⟩ : S32)] : List (S32))) (([(⟨bt287.1, bt287.2.1, bt287.2.2.1, bt287.2.2.2.1, bt287.2.2.2.2.1, bt287.2.2.2.2.2⟩ : S32)] : List (S32)))).bind fun t302 => (some t302)))) else (some false)))) else (some false)))) else (some false)))) = some r := by rw [if_neg (show ¬ (false = true) by decide)] at H; exact H
       clear H
       have H := H1
       clear H1
       replace H := Option.bind_eq_some_iff.mp H
       obtain ⟨t266, A460, H⟩ := H
       replace H : ((emendationref11_Closes.f kj16 a0 a1).bind fun t267 => (if (t266 == t267) = true then ((kind_Unquote.f kj16 a0).bind fun t268 => ((emendationref11_Unquote.f kj16 a0).bind fun t269 => (if t268.toList = t269.toList then ((kind_Unitem.f kj16 a0).bind fun t270 => ((emendationref11_Unitem.f kj16 a0).bind fun t271 => (if t270.toList = t271.toList then ((kind_Define.f kj16 a0).bind fun bt272 => ((emendationref11_Define.f kj16 a0).bind fun bt287 => ((emendationref10_Same.f kj16 (([(⟨bt272.1, bt272.2.1, bt272.2.2.1, bt272.2.2.2.1, bt272.2.2.2.2.1, bt272.2.2.2.2.2⟩ : S32)] : List (S32))) (([(⟨bt287.1, bt287.2.1, bt287.2.2.1, bt287.2.2.2.1, bt287.2.2.2.2.1, bt287.2.2.2.2.2⟩ : S32)] : List (S32)))).bind fun t302 => (some t302)))) else (some false)))) else (some false)))) else (some false))) = some r := H
       have A46 := Aside0.mk A460
       clear A460
       replace H := Option.bind_eq_some_iff.mp H
       obtain ⟨t267, A470, H⟩ := H
       replace H : (if (t266 == t267) = true then ((kind_Unquote.f kj16 a0).bind fun t268 => ((emendationref11_Unquote.f kj16 a0).bind fun t269 => (if t268.toList = t269.toList then ((kind_Unitem.f kj16 a0).bind fun t270 => ((emendationref11_Unitem.f kj16 a0).bind fun t271 => (if t270.toList = t271.toList then ((kind_Define.f kj16 a0).bind fun bt272 => ((emendationref11_Define.f kj16 a0).bind fun bt287 => ((emendationref10_Same.f kj16 (([(⟨bt272.1, bt272.2.1, bt272.2.2.1, bt272.2.2.2.1, bt272.2.2.2.2.1, bt272.2.2.2.2.2⟩ : S32)] : List (S32))) (([(⟨bt287.1, bt287.2.1, bt287.2.2.1, bt287.2.2.2.1, bt287.2.2.2.2.1, bt287.2.2.2.2.2⟩ : S32)] : List (S32)))).bind fun t302 => (some t302)))) else (some false)))) else (some false)))) else (some false)) = some r := H
       have A47 := Aside0.mk A470
       clear A470
       by_cases c48 : (t266 == t267) = true
       ·
        rw [if_pos c48] at H
        have c48b0 : (t266 == t267) = true := c48
        (try (have c48b1 : decide (t266 = t267) = true := by simpa using c48))
        (try (have c48b2 : (t266 == t267) = true := by simpa using c48))
        clear c48
        replace H := Option.bind_eq_some_iff.mp H
        obtain ⟨t268, A490, H⟩ := H
        replace H : ((emendationref11_Unquote.f kj16 a0).bind fun t269 => (if t268.toList = t269.toList then ((kind_Unitem.f kj16 a0).bind fun t270 => ((emendationref11_Unitem.f kj16 a0).bind fun t271 => (if t270.toList = t271.toList then ((kind_Define.f kj16 a0).bind fun bt272 => ((emendationref11_Define.f kj16 a0).bind fun bt287 => ((emendationref10_Same.f kj16 (([(⟨bt272.1, bt272.2.1, bt272.2.2.1, bt272.2.2.2.1, bt272.2.2.2.2.1, bt272.2.2.2.2.2⟩ : S32)] : List (S32))) (([(⟨bt287.1, bt287.2.1, bt287.2.2.1, bt287.2.2.2.1, bt287.2.2.2.2.1, bt287.2.2.2.2.2⟩ : S32)] : List (S32)))).bind fun t302 => (some t302)))) else (some false)))) else (some false))) = some r := H
        have A49 := Aside0.mk A490
        clear A490
        replace H := Option.bind_eq_some_iff.mp H
        obtain ⟨t269, A500, H⟩ := H
        replace H : (if t268.toList = t269.toList then ((kind_Unitem.f kj16 a0).bind fun t270 => ((emendationref11_Unitem.f kj16 a0).bind fun t271 => (if t270.toList = t271.toList then ((kind_Define.f kj16 a0).bind fun bt272 => ((emendationref11_Define.f kj16 a0).bind fun bt287 => ((emendationref10_Same.f kj16 (([(⟨bt272.1, bt272.2.1, bt272.2.2.1, bt272.2.2.2.1, bt272.2.2.2.2.1, bt272.2.2.2.2.2⟩ : S32)] : List (S32))) (([(⟨bt287.1, bt287.2.1, bt287.2.2.1, bt287.2.2.2.1, bt287.2.2.2.2.1, bt287.2.2.2.2.2⟩ : S32)] : List (S32)))).bind fun t302 => (some t302)))) else (some false)))) else (some false)) = some r := H
        have A50 := Aside0.mk A500
        clear A500
        by_cases c51 : t268.toList = t269.toList
        ·
         rw [if_pos c51] at H
         have c51b0 : (t268.toList == t269.toList) = true := beq_iff_eq.mpr c51
         have c51b1 : (t268.toList != t269.toList) = false := bne_eq_false_iff_eq.mpr c51
         clear c51
         replace H := Option.bind_eq_some_iff.mp H
         obtain ⟨t270, A520, H⟩ := H
         replace H : ((emendationref11_Unitem.f kj16 a0).bind fun t271 => (if t270.toList = t271.toList then ((kind_Define.f kj16 a0).bind fun bt272 => ((emendationref11_Define.f kj16 a0).bind fun bt287 => ((emendationref10_Same.f kj16 (([(⟨bt272.1, bt272.2.1, bt272.2.2.1, bt272.2.2.2.1, bt272.2.2.2.2.1, bt272.2.2.2.2.2⟩ : S32)] : List (S32))) (([(⟨bt287.1, bt287.2.1, bt287.2.2.1, bt287.2.2.2.1, bt287.2.2.2.2.1, bt287.2.2.2.2.2⟩ : S32)] : List (S32)))).bind fun t302 => (some t302)))) else (some false))) = some r := H
         have A52 := Aside0.mk A520
         clear A520
         replace H := Option.bind_eq_some_iff.mp H
         obtain ⟨t271, A530, H⟩ := H
         replace H : (if t270.toList = t271.toList then ((kind_Define.f kj16 a0).bind fun bt272 => ((emendationref11_Define.f kj16 a0).bind fun bt287 => ((emendationref10_Same.f kj16 (([(⟨bt272.1, bt272.2.1, bt272.2.2.1, bt272.2.2.2.1, bt272.2.2.2.2.1, bt272.2.2.2.2.2⟩ : S32)] : List (S32))) (([(⟨bt287.1, bt287.2.1, bt287.2.2.1, bt287.2.2.2.1, bt287.2.2.2.2.1, bt287.2.2.2.2.2⟩ : S32)] : List (S32)))).bind fun t302 => (some t302)))) else (some false)) = some r := H
         have A53 := Aside0.mk A530
         clear A530
         by_cases c54 : t270.toList = t271.toList
         ·
          rw [if_pos c54] at H
          have c54b0 : (t270.toList == t271.toList) = true := beq_iff_eq.mpr c54
          have c54b1 : (t270.toList != t271.toList) = false := bne_eq_false_iff_eq.mpr c54
          clear c54
          replace H := Option.bind_eq_some_iff.mp H
          obtain ⟨⟨t272, t273, t274, t275, t278, t281⟩, A550, H⟩ := H
          replace H : ((emendationref11_Define.f kj16 a0).bind fun bt287 => ((emendationref10_Same.f kj16 (([(⟨t272, t273, t274, t275, t278, t281⟩ : S32)] : List (S32))) (([(⟨bt287.1, bt287.2.1, bt287.2.2.1, bt287.2.2.2.1, bt287.2.2.2.2.1, bt287.2.2.2.2.2⟩ : S32)] : List (S32)))).bind fun t302 => (some t302))) = some r := H
          have A55 := Aside0.mk A550
          clear A550
          obtain ⟨y284, hy284⟩ : ∃ y_ : List (S32), y_ = (([(⟨t272, t273, t274, t275, t278, t281⟩ : S32)] : List (S32))) := ⟨_, rfl⟩
          replace H : ((emendationref11_Define.f kj16 a0).bind fun bt287 => ((emendationref10_Same.f kj16 y284 (([(⟨bt287.1, bt287.2.1, bt287.2.2.1, bt287.2.2.2.1, bt287.2.2.2.2.1, bt287.2.2.2.2.2⟩ : S32)] : List (S32)))).bind fun t302 => (some t302))) = some r := by first | (rw [hy284]; with_reducible exact H) | (have H2_ := (Option.bind_some _ _).symm.trans H; rw [hy284]; with_reducible exact H2_) | (have H2_ := (Option.bind_some _ _).symm.trans H; with_reducible exact H2_) | with_reducible exact H | (rw [hy284]; exact H) | exact H
          have Ny284 := Aside0.mk hy284
          clear hy284
          replace H := Option.bind_eq_some_iff.mp H
          obtain ⟨⟨t287, t288, t289, t290, t293, t296⟩, A560, H⟩ := H
          replace H : ((emendationref10_Same.f kj16 y284 (([(⟨t287, t288, t289, t290, t293, t296⟩ : S32)] : List (S32)))).bind fun t302 => (some t302)) = some r := H
          have A56 := Aside0.mk A560
          clear A560
          obtain ⟨y299, hy299⟩ : ∃ y_ : List (S32), y_ = (([(⟨t287, t288, t289, t290, t293, t296⟩ : S32)] : List (S32))) := ⟨_, rfl⟩
          replace H : ((emendationref10_Same.f kj16 y284 y299).bind fun t302 => (some t302)) = some r := by first | (rw [hy299]; with_reducible exact H) | (have H2_ := (Option.bind_some _ _).symm.trans H; rw [hy299]; with_reducible exact H2_) | (have H2_ := (Option.bind_some _ _).symm.trans H; with_reducible exact H2_) | with_reducible exact H | (rw [hy299]; exact H) | exact H
          have Ny299 := Aside0.mk hy299
          clear hy299
          replace H := Option.bind_eq_some_iff.mp H
          obtain ⟨t302, A570, H⟩ := H
          replace H : (some t302) = some r := H
          have A57 := Aside0.mk A570
          clear A570
          obtain rfl := Option.some.inj H
          go_wp2_with (first | ((with_reducible refine gate_callee (f := 14) rfl ?_); refine goesL_ (some 92) rfl rfl Tryd.func14 (by kernel_rfl) rfl #[.string a0, .int .i64 a1] rfl (by (try simp only [List.map_toArray, List.map_cons, List.map_nil]); first | done | rfl | (simp only [List.length_drop, List.length_take]; rfl)) ?_; (with_reducible refine (kind_Closes.calls kj16 a0 a1 t266 _ A46.out).mono ?_); rintro e w' ⟨rfl, ⟨nd, rfl⟩⟩; refine ⟨_, rfl, ?_⟩) | ((with_reducible refine gate_callee (f := 22) rfl ?_); refine goesL_ (some 95) rfl rfl Tryd.func22 (by kernel_rfl) rfl #[.string a0, .int .i64 a1] rfl (by (try simp only [List.map_toArray, List.map_cons, List.map_nil]); first | done | rfl | (simp only [List.length_drop, List.length_take]; rfl)) ?_; (with_reducible refine (emendationref11_Closes.calls kj16 a0 a1 t267 _ A47.out).mono ?_); rintro e w' ⟨rfl, ⟨nd, rfl⟩⟩; refine ⟨_, rfl, ?_⟩; have tkA49 : True := trivial) | (go_at_call 16; clear tkA49; (with_reducible refine (kind_Unquote.calls kj16 a0 t268 _ ?side1 A49.out).mono ?_); (case side1 => first | exact HT.out | exact Tabs.at HT.out (by repeat (with_reducible first | exact HB.out | apply below_alloc | apply pw_below_drewN | apply below_drew1))); rintro e w58 ⟨rfl, hb⟩; have n0_ := Aside0.mk (below_step (by repeat (with_reducible first | exact HB.out | apply below_alloc | apply pw_below_drewN | apply below_drew1)) hb); clear HB; have HB := n0_; clear n0_; (try clear hb); (try clear hb2); (try clear hk); (try clear hi); have tkA50 : True := trivial) | (go_at_call 23; clear tkA50; (with_reducible refine (emendationref11_Unquote.calls kj16 a0 t269 _ A50.out).mono ?_); rintro e w59 ⟨rfl, hb⟩; have n0_ := Aside0.mk (below_step (by repeat (with_reducible first | exact HB.out | apply below_alloc | apply pw_below_drewN | apply below_drew1)) hb); clear HB; have HB := n0_; clear n0_; (try clear hb); (try clear hb2); (try clear hk); (try clear hi); have tkA52 : True := trivial) | (go_at_call 17; clear tkA52; (with_reducible refine (kind_Unitem.calls kj16 a0 t270 _ ?side1 A52.out).mono ?_); (case side1 => first | exact HT.out | exact Tabs.at HT.out (by repeat (with_reducible first | exact HB.out | apply below_alloc | apply pw_below_drewN | apply below_drew1))); rintro e w60 ⟨rfl, hb⟩; have n0_ := Aside0.mk (below_step (by repeat (with_reducible first | exact HB.out | apply below_alloc | apply pw_below_drewN | apply below_drew1)) hb); clear HB; have HB := n0_; clear n0_; (try clear hb); (try clear hb2); (try clear hk); (try clear hi); have tkA53 : True := trivial) | (go_at_call 24; clear tkA53; (with_reducible refine (emendationref11_Unitem.calls kj16 a0 t271 _ A53.out).mono ?_); rintro e w61 ⟨rfl, hb⟩; have n0_ := Aside0.mk (below_step (by repeat (with_reducible first | exact HB.out | apply below_alloc | apply pw_below_drewN | apply below_drew1)) hb); clear HB; have HB := n0_; clear n0_; (try clear hb); (try clear hb2); (try clear hk); (try clear hi); have tkA55 : True := trivial) | (go_at_call 11; clear tkA55; (with_reducible refine (kind_Define.calls kj16 a0 t272 t273 t274 t275 t278 t281 _ ?side1 A55.out).mono ?_); (case side1 => first | exact HT.out | exact Tabs.at HT.out (by repeat (with_reducible first | exact HB.out | apply below_alloc | apply pw_below_drewN | apply below_drew1))); rintro e w62 ⟨v276, v279, v282, rfl, ho0, ho1, ho2, hb⟩; have n0_ := Aside0.mk (Kd.R_lower ho0 (below_size (by repeat (with_reducible first | exact HB.out | apply below_alloc | apply pw_below_drewN | apply below_drew1)))); have n1_ := Aside0.mk (Kd.N_lower (Kd.N_mono (ok' := fun k_ => some k_ ≠ (v276 : Value).ownBlock ∧ some k_ ≠ (v282 : Value).ownBlock) (Kd.R_N (Kd.R_bound (Kd.R_apart' (Kd.R_apart' ho1 (Kd.R_typed ho0) (by decide)) (Kd.R_typed ho2) (by decide)))) (fun k_ hk_ => ⟨hk_.1.1.2, hk_.1.2⟩)) (below_size (by repeat (with_reducible first | exact HB.out | apply below_alloc | apply pw_below_drewN | apply below_drew1)))); have n2_ := Aside0.mk (Kd.N_lower (Kd.N_mono (ok' := fun k_ => some k_ ≠ (v276 : Value).ownBlock ∧ some k_ ≠ (v279 : Value).ownBlock) (Kd.R_N (Kd.R_bound ho2)) (fun k_ hk_ => ⟨hk_.1.1, hk_.1.2⟩)) (below_size (by repeat (with_reducible first | exact HB.out | apply below_alloc | apply pw_below_drewN | apply below_drew1)))); have n3_ := Aside0.mk (below_step (by repeat (with_reducible first | exact HB.out | apply below_alloc | apply pw_below_drewN | apply below_drew1)) hb); clear HB; have HO277 := n0_; have HO280 := n1_; have HO283 := n2_; have HB := n3_; clear n0_ n1_ n2_ n3_; (try clear hb); (try clear hb2); (try clear hk); (try clear hi); (try clear ho0); (try clear ho1); (try clear ho2); obtain ⟨Ao63, co63, eo63⟩ := Kd.R_slice HO277.out; subst eo63; obtain ⟨Ao64, co64, eo64⟩ := Kd.N_slice HO280.out; subst eo64; obtain ⟨Ao65, co65, eo65⟩ := Kd.N_slice HO283.out; subst eo65) | ((with_reducible refine gate_dst (N := 114) rfl ?_); (try (refine gate_guard (by rfl) ?_; dsimp only)); refine Kd.N_lit k32 _ 32 ?hg (N' := 114) ?hd (xs := ([(⟨t272, t273, t274, t275, t278, t281⟩ : S32)] : List (S32))) (inner := [.int .i64 t272, .int .i64 t273, .string t274, .slice Ao63 t275.length co63, .slice Ao64 t278.length co64, .slice Ao65 t281.length co65]) (ok := (fun _ => True)) (okp := (fun _ => True)) ?hr ?hp (fun _ hk => hk) ((show ∀ k_, w62.heap.size ≤ k_ → (fun _ => True) k_ from fun k_ hk => trivial) _ (Nat.le_refl _)) (Below.refl _ _) (Nat.le_refl _) (by simp) ?_; (case hd => rfl); (case hg => rfl); (case hr => first | (go_simp; done) | (go_simp; rfl)); (case hp => exact (Reps.c6 (show Kd.FK k32 _ _ (⟨t272, t273, t274, t275, t278, t281⟩ : S32) [.int .i64 t272, .int .i64 t273, .string t274, .slice Ao63 t275.length co63, .slice Ao64 t278.length co64, .slice Ao65 t281.length co65] from (k32_mkF _ _ (⟨t272, t273, t274, t275, t278, t281⟩ : S32) (Kd.R_reads' (Kd.R_mono (ok' := (fun _ => True)) (HO277.out) (fun k_ hk => trivial))).2.1 (Kd.R_F (Kd.R_mono (ok' := (fun _ => True)) (HO277.out) (fun k_ hk => trivial))) (Kd.N_reads' (Kd.N_mono (ok' := (fun _ => True)) (HO280.out) (fun k_ hk => trivial))).2.1 (Kd.N_F (Kd.N_mono (ok' := (fun _ => True)) (HO280.out) (fun k_ hk => trivial))) (Kd.N_reads' (Kd.N_mono (ok' := (fun _ => True)) (HO283.out) (fun k_ hk => trivial))).2.1 (Kd.N_F (Kd.N_mono (ok' := (fun _ => True)) (HO283.out) (fun k_ hk => trivial))))) (Reps.none _ _))); intro v285 w66 ho67 hb hg_ hnew_; clear hg_ hnew_; (first | rw [← Ny284.out] at ho67 | (simp only [Int.reduceToNat] at ho67; rw [← Ny284.out] at ho67)); have n0_ := Aside0.mk (Kd.N_lower ho67 (below_size (by repeat (with_reducible first | exact HB.out | apply below_alloc | apply pw_below_drewN | apply below_drew1)))); have n1_ := Aside0.mk (below_step (by repeat (with_reducible first | exact HB.out | apply below_alloc | apply pw_below_drewN | apply below_drew1)) hb); clear HB; clear HO277; clear HO280; clear HO283; have HO286 := n0_; have HB := n1_; clear n0_ n1_; clear hb ho67; have tkA56 : True := trivial) | (go_at_call 26; clear tkA56; (with_reducible refine (emendationref11_Define.calls kj16 a0 t287 t288 t289 t290 t293 t296 _ A56.out).mono ?_); rintro e w68 ⟨v291, v294, v297, rfl, ho0, ho1, ho2, hb⟩; have n0_ := Aside0.mk (Kd.N_mono (Kd.N_told (Kd.N_told (Kd.N_told (Kd.N_old (by (with_reducible repeat (first | apply Kd.N_alloc | apply Kd.N_drewN | apply Kd.N_drew)); exact HO286.out) hb) (Kd.R_base ho0)) (Kd.R_base ho1)) (Kd.R_base ho2)) (fun _ h_ => h_.1)); have n1_ := Aside0.mk (Kd.R_lower ho0 (below_size (by repeat (with_reducible first | exact HB.out | apply below_alloc | apply pw_below_drewN | apply below_drew1)))); have n2_ := Aside0.mk (Kd.N_lower (Kd.N_mono (ok' := fun k_ => some k_ ≠ (v291 : Value).ownBlock ∧ some k_ ≠ (v297 : Value).ownBlock ∧ some k_ ≠ (v285 : Value).ownBlock) (Kd.R_N (Kd.R_bound (Kd.R_apart' (Kd.R_apart' ho1 (Kd.R_typed ho0) (by decide)) (Kd.R_typed ho2) (by decide)))) (fun k_ hk_ => ⟨hk_.1.1.2, hk_.1.2, (Kd.fresh' (Kd.N_lt (by (with_reducible repeat (first | apply Kd.N_alloc | apply Kd.N_drewN | apply Kd.N_drew)); exact HO286.out)) k_ hk_.2.1)⟩)) (below_size (by repeat (with_reducible first | exact HB.out | apply below_alloc | apply pw_below_drewN | apply below_drew1)))); have n3_ := Aside0.mk (Kd.N_lower (Kd.N_mono (ok' := fun k_ => some k_ ≠ (v291 : Value).ownBlock ∧ some k_ ≠ (v294 : Value).ownBlock ∧ some k_ ≠ (v285 : Value).ownBlock) (Kd.R_N (Kd.R_bound ho2)) (fun k_ hk_ => ⟨hk_.1.1, hk_.1.2, (Kd.fresh' (Kd.N_lt (by (with_reducible repeat (first | apply Kd.N_alloc | apply Kd.N_drewN | apply Kd.N_drew)); exact HO286.out)) k_ hk_.2.1)⟩)) (below_size (by repeat (with_reducible first | exact HB.out | apply below_alloc | apply pw_below_drewN | apply below_drew1)))); have n4_ := Aside0.mk (below_step (by repeat (with_reducible first | exact HB.out | apply below_alloc | apply pw_below_drewN | apply below_drew1)) hb); clear HO286; clear HB; have HO286 := n0_; have HO292 := n1_; have HO295 := n2_; have HO298 := n3_; have HB := n4_; clear n0_ n1_ n2_ n3_ n4_; (try clear hb); (try clear hb2); (try clear hk); (try clear hi); (try clear ho0); (try clear ho1); (try clear ho2); obtain ⟨Ao69, co69, eo69⟩ := Kd.R_slice HO292.out; subst eo69; obtain ⟨Ao70, co70, eo70⟩ := Kd.N_slice HO295.out; subst eo70; obtain ⟨Ao71, co71, eo71⟩ := Kd.N_slice HO298.out; subst eo71) | ((with_reducible refine gate_dst (N := 117) rfl ?_); (try (refine gate_guard (by rfl) ?_; dsimp only)); refine Kd.N_lit k32 _ 32 ?hg (N' := 117) ?hd (xs := ([(⟨t287, t288, t289, t290, t293, t296⟩ : S32)] : List (S32))) (inner := [.int .i64 t287, .int .i64 t288, .string t289, .slice Ao69 t290.length co69, .slice Ao70 t293.length co70, .slice Ao71 t296.length co71]) (ok := (fun k_ => some k_ ≠ (v285 : Value).ownBlock)) (okp := (fun k_ => some k_ ≠ (v285 : Value).ownBlock)) ?hr ?hp (fun _ hk => hk) ((show ∀ k_, w68.heap.size ≤ k_ → (fun k_ => some k_ ≠ (v285 : Value).ownBlock) k_ from fun k_ hk => Kd.fresh' (Kd.N_lt (by (with_reducible repeat (first | apply Kd.N_alloc | apply Kd.N_drewN | apply Kd.N_drew)); exact HO286.out)) k_ hk) _ (Nat.le_refl _)) (Below.refl _ _) (Nat.le_refl _) (by simp) ?_; (case hd => rfl); (case hg => rfl); (case hr => first | (go_simp; done) | (go_simp; rfl)); (case hp => exact (Reps.c6 (show Kd.FK k32 _ _ (⟨t287, t288, t289, t290, t293, t296⟩ : S32) [.int .i64 t287, .int .i64 t288, .string t289, .slice Ao69 t290.length co69, .slice Ao70 t293.length co70, .slice Ao71 t296.length co71] from (k32_mkF _ _ (⟨t287, t288, t289, t290, t293, t296⟩ : S32) (Kd.R_reads' (Kd.R_mono (ok' := (fun k_ => some k_ ≠ (v285 : Value).ownBlock)) (Kd.R_apart' (HO292.out) (Kd.N_typed HO286.out) (by decide)) (fun k_ hk => hk.2))).2.1 (Kd.R_F (Kd.R_mono (ok' := (fun k_ => some k_ ≠ (v285 : Value).ownBlock)) (Kd.R_apart' (HO292.out) (Kd.N_typed HO286.out) (by decide)) (fun k_ hk => hk.2))) (Kd.N_reads' (Kd.N_mono (ok' := (fun k_ => some k_ ≠ (v285 : Value).ownBlock)) (HO295.out) (fun k_ hk => hk.2.2))).2.1 (Kd.N_F (Kd.N_mono (ok' := (fun k_ => some k_ ≠ (v285 : Value).ownBlock)) (HO295.out) (fun k_ hk => hk.2.2))) (Kd.N_reads' (Kd.N_mono (ok' := (fun k_ => some k_ ≠ (v285 : Value).ownBlock)) (HO298.out) (fun k_ hk => hk.2.2))).2.1 (Kd.N_F (Kd.N_mono (ok' := (fun k_ => some k_ ≠ (v285 : Value).ownBlock)) (HO298.out) (fun k_ hk => hk.2.2))))) (Reps.none _ _))); intro v300 w72 ho73 hb hg_ hnew_; clear hg_ hnew_; (first | rw [← Ny299.out] at ho73 | (simp only [Int.reduceToNat] at ho73; rw [← Ny299.out] at ho73)); have n0_ := Aside0.mk (Kd.N_elder' (by (with_reducible repeat (first | apply Kd.N_alloc | apply Kd.N_drewN | apply Kd.N_drew)); exact HO286.out) (Kd.N_base ho73) hb); have n1_ := Aside0.mk (Kd.N_lower ho73 (below_size (by repeat (with_reducible first | exact HB.out | apply below_alloc | apply pw_below_drewN | apply below_drew1)))); have n2_ := Aside0.mk (below_step (by repeat (with_reducible first | exact HB.out | apply below_alloc | apply pw_below_drewN | apply below_drew1)) hb); clear HO286; clear HB; clear HO292; clear HO295; clear HO298; have HO286 := n0_; have HO301 := n1_; have HB := n2_; clear n0_ n1_ n2_; clear hb ho73; obtain ⟨Ao74, co74, eo74⟩ := Kd.N_slice HO286.out; subst eo74; obtain ⟨Ao75, co75, eo75⟩ := Kd.N_slice HO301.out; subst eo75; have tkA57 : True := trivial) | (go_at_call 25; clear tkA57; (with_reducible refine (emendationref10_Same.calls kj16 _ _ y284 _ _ y299 t302 _ ?side1 ?side2 ?side3 ?side4 A57.out).mono ?_); (case side1 => repeat (first | exact (Kd.N_reads' HO286.out).2.2 | (with_reducible refine Kd.C_alloc ?_ _) | (with_reducible refine Kd.C_drewN ?_ _) | (with_reducible refine Kd.C_drew ?_))); (case side2 => exact (Kd.N_reads' HO286.out).2.1); (case side3 => repeat (first | exact (Kd.N_reads' HO301.out).2.2 | (with_reducible refine Kd.C_alloc ?_ _) | (with_reducible refine Kd.C_drewN ?_ _) | (with_reducible refine Kd.C_drew ?_))); (case side4 => exact (Kd.N_reads' HO301.out).2.1); rintro e w76 ⟨rfl, hb⟩; have n0_ := Aside0.mk (Kd.N_below (by (with_reducible repeat (first | apply Kd.N_alloc | apply Kd.N_drewN | apply Kd.N_drew)); exact HO286.out) hb); have n1_ := Aside0.mk (Kd.N_below (by (with_reducible repeat (first | apply Kd.N_alloc | apply Kd.N_drewN | apply Kd.N_drew)); exact HO301.out) hb); have n2_ := Aside0.mk (below_step (by repeat (with_reducible first | exact HB.out | apply below_alloc | apply pw_below_drewN | apply below_drew1)) hb); clear HO286; clear HO301; clear HB; have HO286 := n0_; have HO301 := n1_; have HB := n2_; clear n0_ n1_ n2_; (try clear hb); (try clear hb2); (try clear hk); (try clear hi)))
          go_ret
          exact ⟨by first | rfl | (simp [errW_none, errW_some] <;> rfl) | (simp [*, errW_none, errW_some] <;> rfl), by repeat (with_reducible first | exact HB.out | apply below_alloc | apply pw_below_drewN | apply below_drew1)⟩
         ·
          rw [if_neg c54] at H
          have c54b0 : (t270.toList == t271.toList) = false := beq_eq_false_iff_ne.mpr c54
          have c54b1 : (t270.toList != t271.toList) = true := bne_iff_ne.mpr c54
          obtain rfl := Option.some.inj H
          go_wp2_with (first | ((with_reducible refine gate_callee (f := 14) rfl ?_); refine goesL_ (some 92) rfl rfl Tryd.func14 (by kernel_rfl) rfl #[.string a0, .int .i64 a1] rfl (by (try simp only [List.map_toArray, List.map_cons, List.map_nil]); first | done | rfl | (simp only [List.length_drop, List.length_take]; rfl)) ?_; (with_reducible refine (kind_Closes.calls kj16 a0 a1 t266 _ A46.out).mono ?_); rintro e w' ⟨rfl, ⟨nd, rfl⟩⟩; refine ⟨_, rfl, ?_⟩) | ((with_reducible refine gate_callee (f := 22) rfl ?_); refine goesL_ (some 95) rfl rfl Tryd.func22 (by kernel_rfl) rfl #[.string a0, .int .i64 a1] rfl (by (try simp only [List.map_toArray, List.map_cons, List.map_nil]); first | done | rfl | (simp only [List.length_drop, List.length_take]; rfl)) ?_; (with_reducible refine (emendationref11_Closes.calls kj16 a0 a1 t267 _ A47.out).mono ?_); rintro e w' ⟨rfl, ⟨nd, rfl⟩⟩; refine ⟨_, rfl, ?_⟩; have tkA49 : True := trivial) | (go_at_call 16; clear tkA49; (with_reducible refine (kind_Unquote.calls kj16 a0 t268 _ ?side1 A49.out).mono ?_); (case side1 => first | exact HT.out | exact Tabs.at HT.out (by repeat (with_reducible first | exact HB.out | apply below_alloc | apply pw_below_drewN | apply below_drew1))); rintro e w77 ⟨rfl, hb⟩; have n0_ := Aside0.mk (below_step (by repeat (with_reducible first | exact HB.out | apply below_alloc | apply pw_below_drewN | apply below_drew1)) hb); clear HB; have HB := n0_; clear n0_; (try clear hb); (try clear hb2); (try clear hk); (try clear hi); have tkA50 : True := trivial) | (go_at_call 23; clear tkA50; (with_reducible refine (emendationref11_Unquote.calls kj16 a0 t269 _ A50.out).mono ?_); rintro e w78 ⟨rfl, hb⟩; have n0_ := Aside0.mk (below_step (by repeat (with_reducible first | exact HB.out | apply below_alloc | apply pw_below_drewN | apply below_drew1)) hb); clear HB; have HB := n0_; clear n0_; (try clear hb); (try clear hb2); (try clear hk); (try clear hi); have tkA52 : True := trivial) | (go_at_call 17; clear tkA52; (with_reducible refine (kind_Unitem.calls kj16 a0 t270 _ ?side1 A52.out).mono ?_); (case side1 => first | exact HT.out | exact Tabs.at HT.out (by repeat (with_reducible first | exact HB.out | apply below_alloc | apply pw_below_drewN | apply below_drew1))); rintro e w79 ⟨rfl, hb⟩; have n0_ := Aside0.mk (below_step (by repeat (with_reducible first | exact HB.out | apply below_alloc | apply pw_below_drewN | apply below_drew1)) hb); clear HB; have HB := n0_; clear n0_; (try clear hb); (try clear hb2); (try clear hk); (try clear hi); have tkA53 : True := trivial) | (go_at_call 24; clear tkA53; (with_reducible refine (emendationref11_Unitem.calls kj16 a0 t271 _ A53.out).mono ?_); rintro e w80 ⟨rfl, hb⟩; have n0_ := Aside0.mk (below_step (by repeat (with_reducible first | exact HB.out | apply below_alloc | apply pw_below_drewN | apply below_drew1)) hb); clear HB; have HB := n0_; clear n0_; (try clear hb); (try clear hb2); (try clear hk); (try clear hi)))
          go_ret
          exact ⟨by first | rfl | (simp [errW_none, errW_some] <;> rfl) | (simp [*, errW_none, errW_some] <;> rfl), by repeat (with_reducible first | exact HB.out | apply below_alloc | apply pw_below_drewN | apply below_drew1)⟩
        ·
         rw [if_neg c51] at H
         have c51b0 : (t268.toList == t269.toList) = false := beq_eq_false_iff_ne.mpr c51
         have c51b1 : (t268.toList != t269.toList) = true := bne_iff_ne.mpr c51
         obtain rfl := Option.some.inj H
         go_wp2_with (first | ((with_reducible refine gate_callee (f := 14) rfl ?_); refine goesL_ (some 92) rfl rfl Tryd.func14 (by kernel_rfl) rfl #[.string a0, .int .i64 a1] rfl (by (try simp only [List.map_toArray, List.map_cons, List.map_nil]); first | done | rfl | (simp only [List.length_drop, List.length_take]; rfl)) ?_; (with_reducible refine (kind_Closes.calls kj16 a0 a1 t266 _ A46.out).mono ?_); rintro e w' ⟨rfl, ⟨nd, rfl⟩⟩; refine ⟨_, rfl, ?_⟩) | ((with_reducible refine gate_callee (f := 22) rfl ?_); refine goesL_ (some 95) rfl rfl Tryd.func22 (by kernel_rfl) rfl #[.string a0, .int .i64 a1] rfl (by (try simp only [List.map_toArray, List.map_cons, List.map_nil]); first | done | rfl | (simp only [List.length_drop, List.length_take]; rfl)) ?_; (with_reducible refine (emendationref11_Closes.calls kj16 a0 a1 t267 _ A47.out).mono ?_); rintro e w' ⟨rfl, ⟨nd, rfl⟩⟩; refine ⟨_, rfl, ?_⟩; have tkA49 : True := trivial) | (go_at_call 16; clear tkA49; (with_reducible refine (kind_Unquote.calls kj16 a0 t268 _ ?side1 A49.out).mono ?_); (case side1 => first | exact HT.out | exact Tabs.at HT.out (by repeat (with_reducible first | exact HB.out | apply below_alloc | apply pw_below_drewN | apply below_drew1))); rintro e w81 ⟨rfl, hb⟩; have n0_ := Aside0.mk (below_step (by repeat (with_reducible first | exact HB.out | apply below_alloc | apply pw_below_drewN | apply below_drew1)) hb); clear HB; have HB := n0_; clear n0_; (try clear hb); (try clear hb2); (try clear hk); (try clear hi); have tkA50 : True := trivial) | (go_at_call 23; clear tkA50; (with_reducible refine (emendationref11_Unquote.calls kj16 a0 t269 _ A50.out).mono ?_); rintro e w82 ⟨rfl, hb⟩; have n0_ := Aside0.mk (below_step (by repeat (with_reducible first | exact HB.out | apply below_alloc | apply pw_below_drewN | apply below_drew1)) hb); clear HB; have HB := n0_; clear n0_; (try clear hb); (try clear hb2); (try clear hk); (try clear hi)))
         go_ret
         exact ⟨by first | rfl | (simp [errW_none, errW_some] <;> rfl) | (simp [*, errW_none, errW_some] <;> rfl), by repeat (with_reducible first | exact HB.out | apply below_alloc | apply pw_below_drewN | apply below_drew1)⟩
       ·
        rw [if_neg c48] at H
        have c48b0 : (t266 == t267) = false := by simpa using c48
        (try (have c48b1 : decide (t266 = t267) = false := by simpa using c48))
        (try (have c48b2 : (t266 == t267) = false := by simpa using c48))
        (try (have c48b3 : ¬ (t266 = t267) := by simpa using c48))
        clear c48
        obtain rfl := Option.some.inj H
        go_wp2_with (first | ((with_reducible refine gate_callee (f := 14) rfl ?_); refine goesL_ (some 92) rfl rfl Tryd.func14 (by kernel_rfl) rfl #[.string a0, .int .i64 a1] rfl (by (try simp only [List.map_toArray, List.map_cons, List.map_nil]); first | done | rfl | (simp only [List.length_drop, List.length_take]; rfl)) ?_; (with_reducible refine (kind_Closes.calls kj16 a0 a1 t266 _ A46.out).mono ?_); rintro e w' ⟨rfl, ⟨nd, rfl⟩⟩; refine ⟨_, rfl, ?_⟩) | ((with_reducible refine gate_callee (f := 22) rfl ?_); refine goesL_ (some 95) rfl rfl Tryd.func22 (by kernel_rfl) rfl #[.string a0, .int .i64 a1] rfl (by (try simp only [List.map_toArray, List.map_cons, List.map_nil]); first | done | rfl | (simp only [List.length_drop, List.length_take]; rfl)) ?_; (with_reducible refine (emendationref11_Closes.calls kj16 a0 a1 t267 _ A47.out).mono ?_); rintro e w' ⟨rfl, ⟨nd, rfl⟩⟩; refine ⟨_, rfl, ?_⟩))
        go_ret
        exact ⟨by first | rfl | (simp [errW_none, errW_some] <;> rfl) | (simp [*, errW_none, errW_some] <;> rfl), by repeat (with_reducible first | exact HB.out | apply below_alloc | apply pw_below_drewN | apply below_drew1)⟩

-- GIVEN: function 70 (emendationref07_Right)

end Go.Proofs.YticaofendehebaaDoor.X
