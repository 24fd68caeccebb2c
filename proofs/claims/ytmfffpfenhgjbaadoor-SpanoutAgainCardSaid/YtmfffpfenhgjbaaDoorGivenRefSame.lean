/- The given contract of the reference's Same for spans: whether they are alike; it only reads. -/
import Derived.Test.YtmfffpfenhgjbaaDoorGivenSame
import Derived.Deep.QuietTactic
import Derived.BigQuiet
set_option linter.unusedVariables false
namespace Go.Proofs.YtmfffpfenhgjbaaDoor.G
open Go.RowKit Go.Lib Go.Proofs Go.Proofs.YtmfffpfenhgjbaaDoor.X Go.Proofs.YtmfffpfenhgjbaaDoorW.PrintWords Go.Proofs.YtmfffpfenhgjbaaDoorW.PrintLast Go.Proofs.YtmfffpfenhgjbaaDoorW.PrintMore
def emendationref07_Same.f (l0 l1 : List S26) : Option Bool := some (sameL l0 l1)
theorem C_drewN' {α : Type} {d : Kd α} {w : World} {A : Option Addr} {n : Nat} {xs : List α} (h : Kd.C d w A n xs) (q : Nat) : Kd.C d (w.drewN q) A n xs := Kd.C_below h (pw_below_drewN (Below.refl _ _) q)
set_option maxHeartbeats 8000000 in
set_option maxRecDepth 1000000 in
theorem ref_same_any (n : Nat) : ∀ (A0 : Option Addr) (c0 : Nat) (l0 : List S26) (A1 : Option Addr) (c1 : Nat) (l1 : List S26) (w : World), SizeOf.sizeOf l0 < n → Kd.C k26 w A0 l0.length l0 → l0.length ≤ c0 → Kd.C k26 w A1 l1.length l1 → l1.length ≤ c1 →
    Calls Tryd.prog 20 #[.slice A0 l0.length c0, .slice A1 l1.length c1] w fun e w' => e = .returned (.bool (sameL l0 l1)) ∧ ∃ m, w' = w.drewN m := by
  induction n with
  | zero => intro A0 c0 l0 A1 c1 l1 w h; omega
  | succ n ih =>
    intro A0 c0 l0 A1 c1 l1 w hn hr0 hc0 hr1 hc1
    by_cases hl : l0.length = l1.length
    · have e0 : ((l0.length : Int) != (l1.length : Int)) = false := by rw [hl]; simp
      have hm : l0.length ≤ 9223372036854775807 := hr0.2.1
      have HL := Aside0.mk hl
      clear hl
      go_enter Tryd.func20, Tryd.ntmps20
      go_wp2
      go_loopw [13] (fun v13 wr => ∃ i : Nat, v13 = .int .i64 (i : Int) ∧ i ≤ l0.length ∧ sameL (l0.drop i) (l1.drop i) = sameL l0 l1 ∧ ∃ q, wr = w.drewN q) (fun v13 _ => l0.length - (intOf v13).toNat)
      case atStart => exact ⟨0, rfl, Nat.zero_le _, rfl, 0, rfl⟩
      case round =>
        obtain ⟨i, rfl, hi, hS, q, rfl⟩ := hrel
        by_cases hlt : i < l0.length
        · have hlt1 : i < l1.length := by have := HL.out; omega
          obtain ⟨ad0, A2, c2, e0, hx0, hx1, hx2, hl2, hk2⟩ := at_T26 hr0 (i : Int) (by omega) (by omega)
          obtain ⟨ad1, A3, c3, e1, hz0, hz1, hz2, hl3, hk3⟩ := at_T26 hr1 (i : Int) (by omega) (by omega)
          cases e0
          cases e1
          have hd : decide ((i : Int) < (l0.length : Int)) = true := decide_eq_true (by omega)
          have hd1 : decide ((i : Int) < (l1.length : Int)) = true := decide_eq_true (by omega)
          have hd2 : ((0 : Int) ≤ (i : Int)) = True := eq_true (by omega)
          have hd3 : ((i : Int) < (l0.length : Int)) = True := eq_true (by omega)
          have hd4 : ((i : Int) < (l1.length : Int)) = True := eq_true (by omega)
          have hx : rd_T26 l0 (i : Int) = l0[i] := by unfold rd_T26; simp [List.getD, hlt]
          have hz : rd_T26 l1 (i : Int) = l1[i] := by unfold rd_T26; simp [List.getD, hlt1]
          rw [hx] at hx0 hx1 hx2 hl2 hk2
          rw [hz] at hz0 hz1 hz2 hl3 hk3
          rw [Int.toNat_natCast] at hx0 hx1 hx2 hz0 hz1 hz2
          clear hx hz
          have hsm := same_kids_lt l0 i hlt
          have hstep := sameL_at l0 l1 i hlt hlt1
          generalize l0[i] = x at hx0 hx1 hx2 hl2 hk2 hsm hstep
          generalize l1[i] = z at hz0 hz1 hz2 hl3 hk3 hstep
          obtain ⟨f0, f1, f2⟩ := x
          obtain ⟨g0, g1, g2⟩ := z
          dsimp only at hx0 hx1 hx2 hl2 hk2 hsm hz0 hz1 hz2 hl3 hk3
          rw [sameV] at hstep
          have cR : ∀ m, Calls Tryd.prog 20 #[.slice A2 f2.length c2, .slice A3 g2.length c3] (w.drewN (q + m)) fun e w' => e = .returned (.bool (sameL f2 g2)) ∧ ∃ n, w' = w.drewN (q + n) := fun m => (ih A2 c2 f2 A3 c3 g2 _ (by omega) (C_drewN' hk2 _) hl2 (C_drewN' hk3 _) hl3).mono fun _ _ ⟨he, x, hx⟩ => ⟨he, m + x, by rw [hx, World.drewN_drewN, Nat.add_assoc]⟩
          have HS := Aside0.mk hS
          have HT := Aside0.mk hstep
          clear hS hstep hr0 hr1 hk2 hk3
          by_cases b1 : f0 = g0
          · have e1 : (f0 != g0) = false := bne_eq_false_iff_eq.2 b1
            have e1' : (f0 == g0) = true := beq_iff_eq.2 b1
            by_cases b2 : f1.data.toList = g1.data.toList
            · have e2 : (f1.toList == g1.toList) = true := by rw [Lib.toList_data, Lib.toList_data]; exact beq_iff_eq.2 b2
              have e2' : (f1.data.toList == g1.data.toList) = true := beq_iff_eq.2 b2
              rw [e1', e2', Bool.true_and, Bool.true_and] at HT
              clear b1 b2 e1' e2'
              generalize sameL f2 g2 = b at cR HT
              cases b with
              | true =>
                go_wp2_with fail
                go_big_quiet ((go_at_call 20; exact cR _))
                go_wp2_with fail
                go_roundw
                case rel => exact ⟨i + 1, congrArg _ (by omega), by omega, by rw [← HS.out, HT.out, Bool.true_and], _, rfl⟩
                case measure => simp [intOf]; omega
              | false =>
                go_wp2_with fail
                go_big_quiet ((go_at_call 20; exact cR _))
                go_wp2_with fail
                go_ret
                exact ⟨by rw [← HS.out, HT.out, Bool.false_and]; rfl, _, World.drewN_drewN _ _ _⟩
            · have e2 : (f1.toList == g1.toList) = false := by rw [Lib.toList_data, Lib.toList_data]; exact beq_eq_false_iff_ne.2 b2
              have e2' : (f1.data.toList == g1.data.toList) = false := beq_eq_false_iff_ne.2 b2
              rw [e1', e2', Bool.true_and, Bool.false_and, Bool.false_and] at HT
              clear b1 b2 e1' e2'
              go_wp2_with fail
              go_big_quiet (fail)
              go_wp2_with fail
              go_ret
              exact ⟨by rw [← HS.out, HT.out]; rfl, _, World.drewN_drewN _ _ _⟩
          · have e1 : (f0 != g0) = true := bne_iff_ne.2 b1
            have e1' : (f0 == g0) = false := beq_eq_false_iff_ne.2 b1
            rw [e1', Bool.false_and, Bool.false_and] at HT
            clear b1 e1'
            go_wp2_with fail
            go_big_quiet (fail)
            go_wp2_with fail
            go_ret
            exact ⟨by rw [← HS.out, HT.out]; rfl, _, World.drewN_drewN _ _ _⟩
        · have hd : decide ((i : Int) < (l0.length : Int)) = false := decide_eq_false (by omega)
          rw [List.drop_eq_nil_of_le (by omega), List.drop_eq_nil_of_le (by have := HL.out; omega)] at hS
          have HS := Aside0.mk hS
          clear hS
          go_wp2_with fail
          go_ret
          exact ⟨by rw [← HS.out]; simp [sameL], _, rfl⟩
    · have e0 : ((l0.length : Int) != (l1.length : Int)) = true := bne_iff_ne.2 (by omega)
      rw [sameL_length l0 l1 hl]
      go_enter Tryd.func20, Tryd.ntmps20
      go_wp2_with fail
      go_ret
      exact ⟨rfl, 0, rfl⟩
theorem emendationref07_Same.calls (A0 : Option Addr) (c0 : Nat) (l0 : List S26) (A1 : Option Addr) (c1 : Nat) (l1 : List S26) (r : Bool) (w : World) (hr0 : Kd.C k26 w A0 l0.length l0) (hc0 : l0.length ≤ c0) (hr1 : Kd.C k26 w A1 l1.length l1) (hc1 : l1.length ≤ c1) (h : emendationref07_Same.f l0 l1 = some r) :
    Calls Tryd.prog 20 #[.slice A0 l0.length c0, .slice A1 l1.length c1] w fun e w' => e = .returned (.bool r) ∧ Drawn0 w w' := by
  obtain rfl := Option.some.inj h
  refine (ref_same_any _ A0 c0 l0 A1 c1 l1 w (Nat.lt_succ_self _) hr0 hc0 hr1 hc1).mono ?_
  rintro e w' ⟨rfl, m, rfl⟩
  exact ⟨rfl, m, rfl⟩
end Go.Proofs.YtmfffpfenhgjbaaDoor.G
