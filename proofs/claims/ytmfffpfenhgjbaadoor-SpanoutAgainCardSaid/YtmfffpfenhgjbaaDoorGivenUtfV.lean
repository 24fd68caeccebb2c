/- utf8.Valid at every row of bytes: it returns Lib.validD of them. Walked in this program's translation, after the shelf's walk of the string instance. -/
import Derived.Test.YtmfffpfenhgjbaaDoorGivenUtfW
import Derived.BigQuiet
import Derived.Deep.DeepBigQuietO
set_option linter.unusedVariables false
namespace Go.Proofs.YtmfffpfenhgjbaaDoor.G
open Go.Shelf Go.RowKit Go.Lib Go.Proofs Go.Proofs.YtmfffpfenhgjbaaDoorW.PrintWords

theorem wordAt0 {w : World} {g o : Nat} {t : ByteArray} (hb : At w g o t) (h8 : 8 ≤ t.size) (c : Nat) :
    Calls Tryd.prog 96 #[.slice (some ⟨g, o, none⟩) t.size c] w fun e w' => e = .returned (.int .u64 (Lib.leNat [t.get! 0, t.get! 1, t.get! 2, t.get! 3, t.get! 4, t.get! 5, t.get! 6, t.get! 7])) ∧ ∃ q', w' = w.drewN q' :=
  word g o t.size c _ _ _ _ _ _ _ _ w h8 (hb 0 (by omega)) (hb 1 (by omega)) (hb 2 (by omega)) (hb 3 (by omega)) (hb 4 (by omega)) (hb 5 (by omega)) (hb 6 (by omega)) (hb 7 (by omega))
theorem cell_alloc_old {W : World} {a : Addr} {v : Value} (o : Obj) (h : W.cell? a = some v) : (W.alloc o).cell? a = some v := by
  have hlt := World.block_lt_of_cell? W _ h
  rw [Below.cell ((Below.refl W.heap.size W).alloc (Nat.le_refl _) o) hlt]
  exact h
theorem cutCap (g o c n : Nat) (hc : n ≤ c) (W : World) : (Instr.slice 54 (.slice (some ⟨g, o, none⟩) n c) none (some (.int .i64 (n : Int))) (some (.int .i64 (n : Int)))).run Tryd.prog W = .ok (.slice (some ⟨g, o, none⟩) n n) W := by
  obtain ⟨i, hi, hsz⟩ := infoU8
  have hel : Tryd.prog.elem 54 = 5 := by simp [Program.elem, Tryd.underlying54]
  have hu : Tryd.prog.underlying 54 = some (.slice (Tryd.prog.elem 54)) := by rw [hel]; exact Tryd.underlying54
  rw [run_slice_hm W 54 (some ⟨g, o, none⟩) n c hu .i64 .i64 (n : Int) (n : Int) (by omega) (by omega) (by omega), hel]
  simp [sizeOf, typeInfo, hi, sliced, Result.andThen, Addr.add]

set_option maxHeartbeats 16000000 in
set_option maxRecDepth 1000000 in
theorem valid (g o0 c : Nat) (s : ByteArray) (w : World) (hs : s.size ≤ 9223372036854775807) (hc : s.size ≤ c) (hT : Lib.Utf8Tabs 0 1 w) (hA0 : At w g o0 s) :
    Calls Tryd.prog 72 #[.slice (some ⟨g, o0, none⟩) s.size c] w fun e w' => e = .returned (.bool (Lib.validD s.data.toList)) ∧ Below w.heap.size w w' := by
  have mixed : Tryd.prog.follows Departure.mixedOrders = true := by kernel_rfl
  obtain ⟨ANS, hANS⟩ : ∃ ANS, Lib.validD s.data.toList = ANS := ⟨_, rfl⟩
  rw [hANS]
  have hcz : (s.size : Int) ≤ (c : Int) := by omega
  have hcut0 := cutCap g o0 c s.size hc
  go_enter Tryd.func72, Tryd.ntmps72
  go_wp2
  go_loopg [0] (s.size + 1) (fun gk s0 wx => Below w.heap.size w wx ∧ ∃ (o : Nat) (t : ByteArray), s0 = .slice (some ⟨g, o, none⟩) t.size t.size ∧ At wx g o t ∧ Lib.validD t.data.toList = ANS ∧ t.size < gk ∧ t.size ≤ 9223372036854775807)
  case atStart => exact ⟨Below.refl _ _, o0, s, rfl, hA0, hANS, by omega, hs⟩
  case round =>
    obtain ⟨hbw, o, t, rfl, hA, hv, hg, hts⟩ := hrel
    clear hANS hcut0
    have hTr := Utf8Tabs_below hT hbw
    by_cases h0 : 0 < t.size
    · obtain ⟨g', rfl⟩ : ∃ g', gk = g' + 1 := ⟨gk - 1, by omega⟩
      have h0z : (0 : Int) < (t.size : Int) := by omega
      obtain ⟨x0, hx0⟩ : ∃ x0, t.get! 0 = x0 := ⟨_, rfl⟩
      have d0 := hA 0 h0
      rw [hx0, Nat.add_zero] at d0
      have hx0lt : x0.toNat < 256 := x0.toNat_lt
      by_cases hasc : x0.toNat < 128
      · as_aux_lemma =>
        have hascz : (x0.toNat : Int) < 128 := by omega
        have a1 : Lib.Asc t 1 := Lib.asc_one t h0 (by rw [hx0]; exact hasc)
        obtain ⟨o1, t1, ht1, z1, hcut1, hA1⟩ := cutAt wr g o t 1 1 rfl (by omega) hA
        have v1 : Lib.validD t1.data.toList = ANS := by rw [← ht1, Lib.valid_skip t 1 a1]; exact hv
        clear hTr hT hv a1 hA
        by_cases c8 : 8 < t1.size
        · have c8z : (8 : Int) < (t1.size : Int) := by omega
          obtain ⟨Aw, hAw⟩ : ∃ A, Lib.leNat [t1.get! 0, t1.get! 1, t1.get! 2, t1.get! 3, t1.get! 4, t1.get! 5, t1.get! 6, t1.get! 7] = A := ⟨_, rfl⟩
          have lAw : Aw < 18446744073709551616 := hAw ▸ Lib.word_lt t1
          have cWw : ∀ q, Calls Tryd.prog 96 #[.slice (some ⟨g, o1, none⟩) t1.size t1.size] (wr.drewN q) fun e w' => e = .returned (.int .u64 Aw) ∧ ∃ q', w' = (wr.drewN q).drewN q' := fun q => by rw [← hAw]; exact wordAt hA1 (by omega) _ q
          have kAw := Lib.word_asc t1 (by omega)
          rw [hAw] at kAw
          have hand1 : bits .and .u64 (Aw : Int) 9259542123273814144 = ((Aw &&& 9259542123273814144 : Nat) : Int) := u64_and_nat Aw 9259542123273814144 lAw (by omega)
          obtain ⟨Z1, hZ1⟩ : ∃ Z1, Aw &&& 9259542123273814144 = Z1 := ⟨_, rfl⟩
          rw [hZ1] at hand1 kAw
          have cW0 : Calls Tryd.prog 96 #[.slice (some ⟨g, o1, none⟩) t1.size t1.size] wr fun e w' => e = .returned (.int .u64 Aw) ∧ ∃ q', w' = wr.drewN q' := by rw [← hAw]; exact wordAt0 hA1 (by omega) _
          by_cases hz1 : Z1 = 0
          · have hz1b : ((Z1 : Int) == 0) = true := by simp [hz1]
            have a8 : Lib.Asc t1 8 := kAw.1 hz1
            obtain ⟨o2, t2, ht2, z2, hcut2, hA2⟩ := cutAt wr g o1 t1 8 8 rfl (by omega) hA1
            have v2 : Lib.validD t2.data.toList = ANS := by rw [← ht2, Lib.valid_skip t1 8 a8]; exact v1
            clear kAw a8 v1 hA1 cWw
            go_wp2_with (go_at_call 96; go_must (refine cW0.mono ?_; rintro e W1 ⟨rfl, q1, rfl⟩))
            clear cW0
            have hb1 : Below w.heap.size w (wr.drewN q1) := below_drewNv hbw q1
            have hA2' : At (wr.drewN q1) g o2 t2 := hA2.below (below_drewNv (Below.refl _ _) q1)
            clear hA2
            generalize wr.drewN q1 = wq at hb1 hA2' ⊢
            clear hbw
            by_cases c16 : 16 < t2.size
            · have c16z : (16 : Int) < (t2.size : Int) := by omega
              have s8z : (8 : Int) ≤ (t2.size : Int) := by omega
              obtain ⟨o2b, t2b, ht2b, z2b, hcut2b, hA2b⟩ := cutAt wq g o2 t2 8 8 rfl (by omega) hA2'
              obtain ⟨Ax, hAx⟩ : ∃ A, Lib.leNat [t2.get! 0, t2.get! 1, t2.get! 2, t2.get! 3, t2.get! 4, t2.get! 5, t2.get! 6, t2.get! 7] = A := ⟨_, rfl⟩
              have lAx : Ax < 18446744073709551616 := hAx ▸ Lib.word_lt t2
              have cWx : ∀ q, Calls Tryd.prog 96 #[.slice (some ⟨g, o2, none⟩) t2.size t2.size] (wq.drewN q) fun e w' => e = .returned (.int .u64 Ax) ∧ ∃ q', w' = (wq.drewN q).drewN q' := fun q => by rw [← hAx]; exact wordAt hA2' (by omega) _ q
              have kAx := Lib.word_asc t2 (by omega)
              rw [hAx] at kAx
              obtain ⟨Ay, hAy⟩ : ∃ A, Lib.leNat [t2b.get! 0, t2b.get! 1, t2b.get! 2, t2b.get! 3, t2b.get! 4, t2b.get! 5, t2b.get! 6, t2b.get! 7] = A := ⟨_, rfl⟩
              have lAy : Ay < 18446744073709551616 := hAy ▸ Lib.word_lt t2b
              have cWy : ∀ q, Calls Tryd.prog 96 #[.slice (some ⟨g, o2b, none⟩) t2b.size t2b.size] (wq.drewN q) fun e w' => e = .returned (.int .u64 Ay) ∧ ∃ q', w' = (wq.drewN q).drewN q' := fun q => by rw [← hAy]; exact wordAt hA2b (by omega) _ q
              have kAy := Lib.word_asc t2b (by omega)
              rw [hAy] at kAy
              have hor2 : bits .or .u64 (Ax : Int) (Ay : Int) = ((Ax ||| Ay : Nat) : Int) := u64_or_nat Ax Ay lAx lAy
              have lor2 : Ax ||| Ay < 18446744073709551616 := Nat.or_lt_two_pow (n := 64) lAx lAy
              have hand2 : bits .and .u64 ((Ax ||| Ay : Nat) : Int) 9259542123273814144 = (((Ax ||| Ay) &&& 9259542123273814144 : Nat) : Int) := u64_and_nat _ 9259542123273814144 lor2 (by omega)
              have k2 : (Ax ||| Ay) &&& 9259542123273814144 = 0 → Lib.Asc t2 16 := fun h0' => by
                obtain ⟨e1, e2⟩ := (Lib.or_mask Ax Ay _).1 h0'
                exact Lib.asc_add t2 8 8 (kAx.1 e1) (by rw [ht2b]; exact kAy.1 e2)
              obtain ⟨O2, hO2⟩ : ∃ O2, Ax ||| Ay = O2 := ⟨_, rfl⟩
              rw [hO2] at hor2 hand2 k2
              obtain ⟨Z2, hZ2⟩ : ∃ Z2, O2 &&& 9259542123273814144 = Z2 := ⟨_, rfl⟩
              rw [hZ2] at hand2 k2
              clear kAx kAy lor2 hO2 hZ2
              by_cases hz2 : Z2 = 0
              · have hz2b : ((Z2 : Int) == 0) = true := by simp [hz2]
                have a16 := k2 hz2
                obtain ⟨o3, t3, ht3, z3, hcut3, hA3⟩ := cutAt wq g o2 t2 16 16 rfl (by omega) hA2'
                have v3 : Lib.validD t3.data.toList = ANS := by rw [← ht3, Lib.valid_skip t2 16 a16]; exact v2
                clear k2 a16 v2
                go_big_quiet (first | (go_at_call 96; with_reducible refine Calls.quiet_of (cWx _)) | (go_at_call 96; with_reducible refine Calls.quiet_of (cWy _)))
                have hb2 : Below w.heap.size w (wq.drewN nq) := below_drewNv hb1 nq
                have hA3' : At (wq.drewN nq) g o3 t3 := hA3.below (below_drewNv (Below.refl _ _) nq)
                clear cWx cWy hA2' hA2b hA3 hb1
                generalize wq.drewN nq = wq2 at hb2 hA3' ⊢
                go_wp2
                go_loopg [0] (t3.size + 1) (fun g2 s0 wx => Below w.heap.size w wx ∧ ∃ (o4 : Nat) (u : ByteArray), s0 = .slice (some ⟨g, o4, none⟩) u.size u.size ∧ At wx g o4 u ∧ Lib.validD u.data.toList = ANS ∧ u.size < g2 ∧ u.size ≤ t3.size)
                case atStart => exact ⟨hb2, o3, t3, rfl, hA3', v3, by omega, Nat.le_refl _⟩
                case round =>
                  obtain ⟨hbu, o4, u, rfl, hAu, vu, hgu, hut⟩ := hrel
                  by_cases c32 : 32 < u.size
                  · obtain ⟨g3, rfl⟩ : ∃ g3, gk = g3 + 1 := ⟨gk - 1, by omega⟩
                    have c32z : (32 : Int) < (u.size : Int) := by omega
                    have s8u : (8 : Int) ≤ (u.size : Int) := by omega
                    have s16u : (16 : Int) ≤ (u.size : Int) := by omega
                    have s24u : (24 : Int) ≤ (u.size : Int) := by omega
                    obtain ⟨ob, ub, hub, zub, hcutb, hAb⟩ := cutAt wr g o4 u 8 8 rfl (by omega) hAu
                    obtain ⟨oc, uc, huc, zuc, hcutc, hAc⟩ := cutAt wr g o4 u 16 16 rfl (by omega) hAu
                    obtain ⟨od, ud, hud, zud, hcutd, hAd⟩ := cutAt wr g o4 u 24 24 rfl (by omega) hAu
                    obtain ⟨Ap, hAp⟩ : ∃ A, Lib.leNat [u.get! 0, u.get! 1, u.get! 2, u.get! 3, u.get! 4, u.get! 5, u.get! 6, u.get! 7] = A := ⟨_, rfl⟩
                    have lAp : Ap < 18446744073709551616 := hAp ▸ Lib.word_lt u
                    have cWp : ∀ q, Calls Tryd.prog 96 #[.slice (some ⟨g, o4, none⟩) u.size u.size] (wr.drewN q) fun e w' => e = .returned (.int .u64 Ap) ∧ ∃ q', w' = (wr.drewN q).drewN q' := fun q => by rw [← hAp]; exact wordAt hAu (by omega) _ q
                    have kAp := Lib.word_asc u (by omega)
                    rw [hAp] at kAp
                    obtain ⟨Aq, hAq⟩ : ∃ A, Lib.leNat [ub.get! 0, ub.get! 1, ub.get! 2, ub.get! 3, ub.get! 4, ub.get! 5, ub.get! 6, ub.get! 7] = A := ⟨_, rfl⟩
                    have lAq : Aq < 18446744073709551616 := hAq ▸ Lib.word_lt ub
                    have cWq : ∀ q, Calls Tryd.prog 96 #[.slice (some ⟨g, ob, none⟩) ub.size ub.size] (wr.drewN q) fun e w' => e = .returned (.int .u64 Aq) ∧ ∃ q', w' = (wr.drewN q).drewN q' := fun q => by rw [← hAq]; exact wordAt hAb (by omega) _ q
                    have kAq := Lib.word_asc ub (by omega)
                    rw [hAq] at kAq
                    obtain ⟨Ar, hAr⟩ : ∃ A, Lib.leNat [uc.get! 0, uc.get! 1, uc.get! 2, uc.get! 3, uc.get! 4, uc.get! 5, uc.get! 6, uc.get! 7] = A := ⟨_, rfl⟩
                    have lAr : Ar < 18446744073709551616 := hAr ▸ Lib.word_lt uc
                    have cWr : ∀ q, Calls Tryd.prog 96 #[.slice (some ⟨g, oc, none⟩) uc.size uc.size] (wr.drewN q) fun e w' => e = .returned (.int .u64 Ar) ∧ ∃ q', w' = (wr.drewN q).drewN q' := fun q => by rw [← hAr]; exact wordAt hAc (by omega) _ q
                    have kAr := Lib.word_asc uc (by omega)
                    rw [hAr] at kAr
                    obtain ⟨At, hAt⟩ : ∃ A, Lib.leNat [ud.get! 0, ud.get! 1, ud.get! 2, ud.get! 3, ud.get! 4, ud.get! 5, ud.get! 6, ud.get! 7] = A := ⟨_, rfl⟩
                    have lAt : At < 18446744073709551616 := hAt ▸ Lib.word_lt ud
                    have cWt : ∀ q, Calls Tryd.prog 96 #[.slice (some ⟨g, od, none⟩) ud.size ud.size] (wr.drewN q) fun e w' => e = .returned (.int .u64 At) ∧ ∃ q', w' = (wr.drewN q).drewN q' := fun q => by rw [← hAt]; exact wordAt hAd (by omega) _ q
                    have kAt := Lib.word_asc ud (by omega)
                    rw [hAt] at kAt
                    have ho1 : bits .or .u64 (Ap : Int) (Aq : Int) = ((Ap ||| Aq : Nat) : Int) := u64_or_nat Ap Aq lAp lAq
                    have ho2 : bits .or .u64 (Ar : Int) (At : Int) = ((Ar ||| At : Nat) : Int) := u64_or_nat Ar At lAr lAt
                    have lo1 : Ap ||| Aq < 18446744073709551616 := Nat.or_lt_two_pow (n := 64) lAp lAq
                    have lo2 : Ar ||| At < 18446744073709551616 := Nat.or_lt_two_pow (n := 64) lAr lAt
                    obtain ⟨P1, hP1⟩ : ∃ P1, Ap ||| Aq = P1 := ⟨_, rfl⟩
                    obtain ⟨P2, hP2⟩ : ∃ P2, Ar ||| At = P2 := ⟨_, rfl⟩
                    rw [hP1] at ho1 lo1
                    rw [hP2] at ho2 lo2
                    have ho3 : bits .or .u64 (P1 : Int) (P2 : Int) = ((P1 ||| P2 : Nat) : Int) := u64_or_nat _ _ lo1 lo2
                    have lo3 : P1 ||| P2 < 18446744073709551616 := Nat.or_lt_two_pow (n := 64) lo1 lo2
                    have hand3 : bits .and .u64 ((P1 ||| P2 : Nat) : Int) 9259542123273814144 = (((P1 ||| P2) &&& 9259542123273814144 : Nat) : Int) := u64_and_nat _ 9259542123273814144 lo3 (by omega)
                    have k3 : (P1 ||| P2) &&& 9259542123273814144 = 0 → Lib.Asc u 32 := fun h0' => by
                      obtain ⟨e01, e23⟩ := (Lib.or_mask _ _ _).1 h0'
                      rw [← hP1] at e01
                      rw [← hP2] at e23
                      obtain ⟨e0, e1⟩ := (Lib.or_mask _ _ _).1 e01
                      obtain ⟨e2, e3⟩ := (Lib.or_mask _ _ _).1 e23
                      have s16 : Lib.Asc u 16 := Lib.asc_add u 8 8 (kAp.1 e0) (by rw [hub]; exact kAq.1 e1)
                      have s24 : Lib.Asc u 24 := Lib.asc_add u 16 8 s16 (by rw [huc]; exact kAr.1 e2)
                      exact Lib.asc_add u 24 8 s24 (by rw [hud]; exact kAt.1 e3)
                    obtain ⟨P3, hP3⟩ : ∃ P3, P1 ||| P2 = P3 := ⟨_, rfl⟩
                    rw [hP3] at ho3 hand3 k3
                    obtain ⟨Z3, hZ3⟩ : ∃ Z3, P3 &&& 9259542123273814144 = Z3 := ⟨_, rfl⟩
                    rw [hZ3] at hand3 k3
                    clear kAp kAq kAr kAt lo1 lo2 lo3 hP1 hP2 hP3 hZ3
                    by_cases hz3 : Z3 = 0
                    · have hz3b : ((Z3 : Int) == 0) = true := by simp [hz3]
                      have a32 := k3 hz3
                      obtain ⟨o5, u2, hu2, zu2, hcut5, hA5⟩ := cutAt wr g o4 u 32 32 rfl (by omega) hAu
                      have vu2 : Lib.validD u2.data.toList = ANS := by rw [← hu2, Lib.valid_skip u 32 a32]; exact vu
                      go_wp2_with fail
                      go_big_quiet (first | (go_at_call 96; with_reducible refine Calls.quiet_of (cWp _)) | (go_at_call 96; with_reducible refine Calls.quiet_of (cWq _)) | (go_at_call 96; with_reducible refine Calls.quiet_of (cWr _)) | (go_at_call 96; with_reducible refine Calls.quiet_of (cWt _)))
                      go_wp2
                      go_roundg g3
                      case measure => omega
                      case rel => exact ⟨below_drewNv hbu nq, o5, u2, rfl, hA5.below (below_drewNv (Below.refl _ _) nq), vu2, by omega, by omega⟩
                    · have hz3b : ((Z3 : Int) == 0) = false := by simp; omega
                      go_wp2_with fail
                      go_big_quiet (first | (go_at_call 96; with_reducible refine Calls.quiet_of (cWp _)) | (go_at_call 96; with_reducible refine Calls.quiet_of (cWq _)) | (go_at_call 96; with_reducible refine Calls.quiet_of (cWr _)) | (go_at_call 96; with_reducible refine Calls.quiet_of (cWt _)))
                      go_wp2
                      go_roundg g'
                      case measure => omega
                      case rel => exact ⟨below_drewNv hbu nq, o4, u, rfl, hAu.below (below_drewNv (Below.refl _ _) nq), vu, by omega, by omega⟩
                  · have c32z : ¬ ((32 : Int) < (u.size : Int)) := by omega
                    have c32b : decide ((32 : Int) < (u.size : Int)) = false := decide_eq_false c32z
                    go_wp2_with fail
                    go_big_quiet (fail)
                    go_wp2
                    go_roundg g'
                    case measure => omega
                    case rel => exact ⟨below_drewNv hbu nq, o4, u, rfl, hAu.below (below_drewNv (Below.refl _ _) nq), vu, by omega, by omega⟩
              · have hz2b : ((Z2 : Int) == 0) = false := by simp; omega
                go_big_quiet (first | (go_at_call 96; with_reducible refine Calls.quiet_of (cWx _)) | (go_at_call 96; with_reducible refine Calls.quiet_of (cWy _)))
                go_wp2
                go_roundg g'
                case measure => omega
                case rel => exact ⟨below_drewNv hb1 nq, o2, t2, rfl, hA2'.below (below_drewNv (Below.refl _ _) nq), v2, by omega, by omega⟩
            · have c16z : ¬ ((16 : Int) < (t2.size : Int)) := by omega
              have c16b : decide ((16 : Int) < (t2.size : Int)) = false := decide_eq_false c16z
              go_big_quiet (fail)
              go_wp2
              go_roundg g'
              case measure => omega
              case rel => exact ⟨below_drewNv hb1 nq, o2, t2, rfl, hA2'.below (below_drewNv (Below.refl _ _) nq), v2, by omega, by omega⟩
          · have hz1b : ((Z1 : Int) == 0) = false := by simp; omega
            go_wp2_with (go_at_call 96; go_must (refine cW0.mono ?_; rintro e W1 ⟨rfl, q1, rfl⟩))
            go_roundg g'
            case measure => omega
            case rel => exact ⟨below_drewNv hbw q1, o1, t1, rfl, hA1.below (below_drewNv (Below.refl _ _) q1), v1, by omega, by omega⟩
        · have c8z : ¬ ((8 : Int) < (t1.size : Int)) := by omega
          go_wp2
          go_roundg g'
          case measure => omega
          case rel => exact ⟨hbw, o1, t1, rfl, hA1, v1, by omega, by omega⟩
      · as_aux_lemma =>
        have hge : 128 ≤ x0.toNat := by omega
        have hascz : ¬ ((x0.toNat : Int) < 128) := by omega
        obtain ⟨x1, hx1⟩ : ∃ x1, t.get! 1 = x1 := ⟨_, rfl⟩
        obtain ⟨x2, hx2⟩ : ∃ x2, t.get! 2 = x2 := ⟨_, rfl⟩
        obtain ⟨x3, hx3⟩ : ∃ x3, t.get! 3 = x3 := ⟨_, rfl⟩
        have l1 := x1.toNat_lt; have l2 := x2.toNat_lt; have l3 := x3.toNat_lt
        have hne : t.data.toList ≠ [] := fun h => by rw [Lib.size_eq, h] at h0; simp at h0
        have hlead := Lib.validD_lead t.data.toList hne (by rw [Lib.getD_get!', hx0]; exact hge)
        rw [Lib.getD_get!', Lib.getD_get!', Lib.getD_get!', Lib.getD_get!', hx0, hx1, hx2, hx3, ← Lib.size_eq, hv] at hlead
        have hc0 := hTr.1 x0.toNat hx0lt
        have hXlt : Lib.firstT x0.toNat < 256 := by rcases Lib.firstT_cases x0.toNat with h | h | h | h | h | h | h | h | h <;> omega
        obtain ⟨X, hX⟩ : ∃ X, Lib.firstT x0.toNat = X := ⟨_, rfl⟩
        rw [hX] at hc0 hXlt hlead
        have h7 := and7 ⟨X, hXlt⟩
        simp only at h7
        have ha0 : wr.cell? ⟨1, X / 16 * 2, none⟩ = some (.int .u8 (Lib.accLo (X / 16))) := by rw [Nat.mul_comm]; exact (hTr.2 (X / 16) (by omega)).1
        have ha1 : wr.cell? ⟨1, X / 16 * 2 + 1, none⟩ = some (.int .u8 (Lib.accHi (X / 16))) := by rw [Nat.mul_comm]; exact (hTr.2 (X / 16) (by omega)).2
        obtain ⟨LO, hLO⟩ : ∃ LO, Lib.accLo (X / 16) = LO := ⟨_, rfl⟩
        obtain ⟨HI, hHI⟩ : ∃ HI, Lib.accHi (X / 16) = HI := ⟨_, rfl⟩
        rw [hLO] at ha0 hlead
        rw [hHI] at ha1 hlead
        obtain ⟨SZ, hSZ⟩ : ∃ SZ, X % 8 = SZ := ⟨_, rfl⟩
        rw [hSZ] at hlead
        clear hTr hT hX hv hLO hHI hne
        by_cases s2 : SZ = 2
        · as_aux_lemma =>
          subst s2
          have hSZz : (X : Int) % 8 = 2 := by omega
          simp only [Lib.checkN, Nat.reduceEqDiff, if_true, if_false] at hlead
          go_upto_region 18 with fail
          go_cut [103] from 85 to 103 (fun c wx => c = .bool (decide (t.size < 2 ∨ x1.toNat < LO ∨ HI < x1.toNat)) ∧ Below w.heap.size w wx ∧ At wx g o t)
          case first =>
            by_cases q0 : t.size < 2
            · have q0z : (t.size : Int) < 2 := by omega
              go_big_quiet (fail)
              go_wp2
              go_meet
              exact ⟨congrArg Value.bool (decide_eq_true (p := t.size < 2 ∨ x1.toNat < LO ∨ HI < x1.toNat) (by omega)).symm, below_drewNv (hbw.alloc hbw.size _) _, (hA.below ((Below.refl _ _).alloc (Nat.le_refl _) _)).below (below_drewNv (Below.refl _ _) _)⟩
            · have q0z : ¬ ((t.size : Int) < 2) := by omega
              have hz1 : (1 : Int) < (t.size : Int) := by omega
              have d1 := hA 1 (by omega)
              rw [hx1] at d1
              have e1 := cell_alloc_old (.cells #[.int .u8 LO, .int .u8 HI] 96) d1
              by_cases p0 : x1.toNat < LO
              · have p0z : (x1.toNat : Int) < (LO : Int) := by omega
                go_big_quiet (fail)
                go_wp2
                go_meet
                exact ⟨congrArg Value.bool (decide_eq_true (p := t.size < 2 ∨ x1.toNat < LO ∨ HI < x1.toNat) (by omega)).symm, below_drewNv (hbw.alloc hbw.size _) _, (hA.below ((Below.refl _ _).alloc (Nat.le_refl _) _)).below (below_drewNv (Below.refl _ _) _)⟩
              · have p0z : ¬ ((x1.toNat : Int) < (LO : Int)) := by omega
                by_cases p1 : HI < x1.toNat
                · have p1z : (HI : Int) < (x1.toNat : Int) := by omega
                  go_big_quiet (fail)
                  go_wp2
                  go_meet
                  exact ⟨congrArg Value.bool (decide_eq_true (p := t.size < 2 ∨ x1.toNat < LO ∨ HI < x1.toNat) (by omega)).symm, below_drewNv (hbw.alloc hbw.size _) _, (hA.below ((Below.refl _ _).alloc (Nat.le_refl _) _)).below (below_drewNv (Below.refl _ _) _)⟩
                · have p1z : ¬ ((HI : Int) < (x1.toNat : Int)) := by omega
                  go_big_quiet (fail)
                  go_wp2
                  go_meet
                  exact ⟨congrArg Value.bool (decide_eq_false (p := t.size < 2 ∨ x1.toNat < LO ∨ HI < x1.toNat) (by omega)).symm, below_drewNv (hbw.alloc hbw.size _) _, (hA.below ((Below.refl _ _).alloc (Nat.le_refl _) _)).below (below_drewNv (Below.refl _ _) _)⟩
          case rest =>
            obtain ⟨rfl, hbc, hAc⟩ := hcut
            by_cases hb : t.size < 2 ∨ x1.toNat < LO ∨ HI < x1.toNat
            · have hbd : decide (t.size < 2 ∨ x1.toNat < LO ∨ HI < x1.toNat) = true := decide_eq_true hb
              rw [if_pos hb] at hlead
              go_wp2
              all_goals (go_ret; exact ⟨by first | rfl | rw [hlead], hbc⟩)
            · have hbd : decide (t.size < 2 ∨ x1.toNat < LO ∨ HI < x1.toNat) = false := decide_eq_false hb
              rw [if_neg hb] at hlead
              obtain ⟨on, tn, htn, zn, hcutn, hAn⟩ := cutAt _ g o t 2 2 rfl (by omega) hAc
              go_wp2
              go_roundg g'
              case measure => omega
              case rel => exact ⟨hbc, on, tn, rfl, hAn, by rw [← htn, Lib.ext_list, hlead], by omega, by omega⟩
        by_cases s3 : SZ = 3
        · as_aux_lemma =>
          subst s3
          have hSZz : (X : Int) % 8 = 3 := by omega
          simp only [Lib.checkN, Nat.reduceEqDiff, if_true, if_false] at hlead
          go_upto_region 22 with fail
          go_cut [138] from 108 to 138 (fun c wx => c = .bool (decide (t.size < 3 ∨ x1.toNat < LO ∨ HI < x1.toNat ∨ x2.toNat < 128 ∨ 191 < x2.toNat)) ∧ Below w.heap.size w wx ∧ At wx g o t)
          case first =>
            by_cases q0 : t.size < 3
            · have q0z : (t.size : Int) < 3 := by omega
              go_big_quiet (fail)
              go_wp2
              go_meet
              exact ⟨congrArg Value.bool (decide_eq_true (p := t.size < 3 ∨ x1.toNat < LO ∨ HI < x1.toNat ∨ x2.toNat < 128 ∨ 191 < x2.toNat) (by omega)).symm, below_drewNv (hbw.alloc hbw.size _) _, (hA.below ((Below.refl _ _).alloc (Nat.le_refl _) _)).below (below_drewNv (Below.refl _ _) _)⟩
            · have q0z : ¬ ((t.size : Int) < 3) := by omega
              have hz1 : (1 : Int) < (t.size : Int) := by omega
              have d1 := hA 1 (by omega)
              rw [hx1] at d1
              have e1 := cell_alloc_old (.cells #[.int .u8 LO, .int .u8 HI] 96) d1
              have hz2 : (2 : Int) < (t.size : Int) := by omega
              have d2 := hA 2 (by omega)
              rw [hx2] at d2
              have e2 := cell_alloc_old (.cells #[.int .u8 LO, .int .u8 HI] 96) d2
              by_cases p0 : x1.toNat < LO
              · have p0z : (x1.toNat : Int) < (LO : Int) := by omega
                go_big_quiet (fail)
                go_wp2
                go_meet
                exact ⟨congrArg Value.bool (decide_eq_true (p := t.size < 3 ∨ x1.toNat < LO ∨ HI < x1.toNat ∨ x2.toNat < 128 ∨ 191 < x2.toNat) (by omega)).symm, below_drewNv (hbw.alloc hbw.size _) _, (hA.below ((Below.refl _ _).alloc (Nat.le_refl _) _)).below (below_drewNv (Below.refl _ _) _)⟩
              · have p0z : ¬ ((x1.toNat : Int) < (LO : Int)) := by omega
                by_cases p1 : HI < x1.toNat
                · have p1z : (HI : Int) < (x1.toNat : Int) := by omega
                  go_big_quiet (fail)
                  go_wp2
                  go_meet
                  exact ⟨congrArg Value.bool (decide_eq_true (p := t.size < 3 ∨ x1.toNat < LO ∨ HI < x1.toNat ∨ x2.toNat < 128 ∨ 191 < x2.toNat) (by omega)).symm, below_drewNv (hbw.alloc hbw.size _) _, (hA.below ((Below.refl _ _).alloc (Nat.le_refl _) _)).below (below_drewNv (Below.refl _ _) _)⟩
                · have p1z : ¬ ((HI : Int) < (x1.toNat : Int)) := by omega
                  by_cases p2 : x2.toNat < 128
                  · have p2z : (x2.toNat : Int) < 128 := by omega
                    go_big_quiet (fail)
                    go_wp2
                    go_meet
                    exact ⟨congrArg Value.bool (decide_eq_true (p := t.size < 3 ∨ x1.toNat < LO ∨ HI < x1.toNat ∨ x2.toNat < 128 ∨ 191 < x2.toNat) (by omega)).symm, below_drewNv (hbw.alloc hbw.size _) _, (hA.below ((Below.refl _ _).alloc (Nat.le_refl _) _)).below (below_drewNv (Below.refl _ _) _)⟩
                  · have p2z : ¬ ((x2.toNat : Int) < 128) := by omega
                    by_cases p3 : 191 < x2.toNat
                    · have p3z : (191 : Int) < (x2.toNat : Int) := by omega
                      go_big_quiet (fail)
                      go_wp2
                      go_meet
                      exact ⟨congrArg Value.bool (decide_eq_true (p := t.size < 3 ∨ x1.toNat < LO ∨ HI < x1.toNat ∨ x2.toNat < 128 ∨ 191 < x2.toNat) (by omega)).symm, below_drewNv (hbw.alloc hbw.size _) _, (hA.below ((Below.refl _ _).alloc (Nat.le_refl _) _)).below (below_drewNv (Below.refl _ _) _)⟩
                    · have p3z : ¬ ((191 : Int) < (x2.toNat : Int)) := by omega
                      go_big_quiet (fail)
                      go_wp2
                      go_meet
                      exact ⟨congrArg Value.bool (decide_eq_false (p := t.size < 3 ∨ x1.toNat < LO ∨ HI < x1.toNat ∨ x2.toNat < 128 ∨ 191 < x2.toNat) (by omega)).symm, below_drewNv (hbw.alloc hbw.size _) _, (hA.below ((Below.refl _ _).alloc (Nat.le_refl _) _)).below (below_drewNv (Below.refl _ _) _)⟩
          case rest =>
            obtain ⟨rfl, hbc, hAc⟩ := hcut
            by_cases hb : t.size < 3 ∨ x1.toNat < LO ∨ HI < x1.toNat ∨ x2.toNat < 128 ∨ 191 < x2.toNat
            · have hbd : decide (t.size < 3 ∨ x1.toNat < LO ∨ HI < x1.toNat ∨ x2.toNat < 128 ∨ 191 < x2.toNat) = true := decide_eq_true hb
              rw [if_pos hb] at hlead
              go_wp2
              all_goals (go_ret; exact ⟨by first | rfl | rw [hlead], hbc⟩)
            · have hbd : decide (t.size < 3 ∨ x1.toNat < LO ∨ HI < x1.toNat ∨ x2.toNat < 128 ∨ 191 < x2.toNat) = false := decide_eq_false hb
              rw [if_neg hb] at hlead
              obtain ⟨on, tn, htn, zn, hcutn, hAn⟩ := cutAt _ g o t 3 3 rfl (by omega) hAc
              go_wp2
              go_roundg g'
              case measure => omega
              case rel => exact ⟨hbc, on, tn, rfl, hAn, by rw [← htn, Lib.ext_list, hlead], by omega, by omega⟩
        by_cases s4 : SZ = 4
        · as_aux_lemma =>
          subst s4
          have hSZz : (X : Int) % 8 = 4 := by omega
          simp only [Lib.checkN, Nat.reduceEqDiff, if_true, if_false] at hlead
          go_upto_region 26 with fail
          go_cut [185] from 143 to 185 (fun c wx => c = .bool (decide (t.size < 4 ∨ x1.toNat < LO ∨ HI < x1.toNat ∨ x2.toNat < 128 ∨ 191 < x2.toNat ∨ x3.toNat < 128 ∨ 191 < x3.toNat)) ∧ Below w.heap.size w wx ∧ At wx g o t)
          case first =>
            by_cases q0 : t.size < 4
            · have q0z : (t.size : Int) < 4 := by omega
              go_big_quiet (fail)
              go_wp2
              go_meet
              exact ⟨congrArg Value.bool (decide_eq_true (p := t.size < 4 ∨ x1.toNat < LO ∨ HI < x1.toNat ∨ x2.toNat < 128 ∨ 191 < x2.toNat ∨ x3.toNat < 128 ∨ 191 < x3.toNat) (by omega)).symm, below_drewNv (hbw.alloc hbw.size _) _, (hA.below ((Below.refl _ _).alloc (Nat.le_refl _) _)).below (below_drewNv (Below.refl _ _) _)⟩
            · have q0z : ¬ ((t.size : Int) < 4) := by omega
              have hz1 : (1 : Int) < (t.size : Int) := by omega
              have d1 := hA 1 (by omega)
              rw [hx1] at d1
              have e1 := cell_alloc_old (.cells #[.int .u8 LO, .int .u8 HI] 96) d1
              have hz2 : (2 : Int) < (t.size : Int) := by omega
              have d2 := hA 2 (by omega)
              rw [hx2] at d2
              have e2 := cell_alloc_old (.cells #[.int .u8 LO, .int .u8 HI] 96) d2
              have hz3 : (3 : Int) < (t.size : Int) := by omega
              have d3 := hA 3 (by omega)
              rw [hx3] at d3
              have e3 := cell_alloc_old (.cells #[.int .u8 LO, .int .u8 HI] 96) d3
              by_cases p0 : x1.toNat < LO
              · have p0z : (x1.toNat : Int) < (LO : Int) := by omega
                go_big_quiet (fail)
                go_wp2
                go_meet
                exact ⟨congrArg Value.bool (decide_eq_true (p := t.size < 4 ∨ x1.toNat < LO ∨ HI < x1.toNat ∨ x2.toNat < 128 ∨ 191 < x2.toNat ∨ x3.toNat < 128 ∨ 191 < x3.toNat) (by omega)).symm, below_drewNv (hbw.alloc hbw.size _) _, (hA.below ((Below.refl _ _).alloc (Nat.le_refl _) _)).below (below_drewNv (Below.refl _ _) _)⟩
              · have p0z : ¬ ((x1.toNat : Int) < (LO : Int)) := by omega
                by_cases p1 : HI < x1.toNat
                · have p1z : (HI : Int) < (x1.toNat : Int) := by omega
                  go_big_quiet (fail)
                  go_wp2
                  go_meet
                  exact ⟨congrArg Value.bool (decide_eq_true (p := t.size < 4 ∨ x1.toNat < LO ∨ HI < x1.toNat ∨ x2.toNat < 128 ∨ 191 < x2.toNat ∨ x3.toNat < 128 ∨ 191 < x3.toNat) (by omega)).symm, below_drewNv (hbw.alloc hbw.size _) _, (hA.below ((Below.refl _ _).alloc (Nat.le_refl _) _)).below (below_drewNv (Below.refl _ _) _)⟩
                · have p1z : ¬ ((HI : Int) < (x1.toNat : Int)) := by omega
                  by_cases p2 : x2.toNat < 128
                  · have p2z : (x2.toNat : Int) < 128 := by omega
                    go_big_quiet (fail)
                    go_wp2
                    go_meet
                    exact ⟨congrArg Value.bool (decide_eq_true (p := t.size < 4 ∨ x1.toNat < LO ∨ HI < x1.toNat ∨ x2.toNat < 128 ∨ 191 < x2.toNat ∨ x3.toNat < 128 ∨ 191 < x3.toNat) (by omega)).symm, below_drewNv (hbw.alloc hbw.size _) _, (hA.below ((Below.refl _ _).alloc (Nat.le_refl _) _)).below (below_drewNv (Below.refl _ _) _)⟩
                  · have p2z : ¬ ((x2.toNat : Int) < 128) := by omega
                    by_cases p3 : 191 < x2.toNat
                    · have p3z : (191 : Int) < (x2.toNat : Int) := by omega
                      go_big_quiet (fail)
                      go_wp2
                      go_meet
                      exact ⟨congrArg Value.bool (decide_eq_true (p := t.size < 4 ∨ x1.toNat < LO ∨ HI < x1.toNat ∨ x2.toNat < 128 ∨ 191 < x2.toNat ∨ x3.toNat < 128 ∨ 191 < x3.toNat) (by omega)).symm, below_drewNv (hbw.alloc hbw.size _) _, (hA.below ((Below.refl _ _).alloc (Nat.le_refl _) _)).below (below_drewNv (Below.refl _ _) _)⟩
                    · have p3z : ¬ ((191 : Int) < (x2.toNat : Int)) := by omega
                      by_cases p4 : x3.toNat < 128
                      · have p4z : (x3.toNat : Int) < 128 := by omega
                        go_big_quiet (fail)
                        go_wp2
                        go_meet
                        exact ⟨congrArg Value.bool (decide_eq_true (p := t.size < 4 ∨ x1.toNat < LO ∨ HI < x1.toNat ∨ x2.toNat < 128 ∨ 191 < x2.toNat ∨ x3.toNat < 128 ∨ 191 < x3.toNat) (by omega)).symm, below_drewNv (hbw.alloc hbw.size _) _, (hA.below ((Below.refl _ _).alloc (Nat.le_refl _) _)).below (below_drewNv (Below.refl _ _) _)⟩
                      · have p4z : ¬ ((x3.toNat : Int) < 128) := by omega
                        by_cases p5 : 191 < x3.toNat
                        · have p5z : (191 : Int) < (x3.toNat : Int) := by omega
                          go_big_quiet (fail)
                          go_wp2
                          go_meet
                          exact ⟨congrArg Value.bool (decide_eq_true (p := t.size < 4 ∨ x1.toNat < LO ∨ HI < x1.toNat ∨ x2.toNat < 128 ∨ 191 < x2.toNat ∨ x3.toNat < 128 ∨ 191 < x3.toNat) (by omega)).symm, below_drewNv (hbw.alloc hbw.size _) _, (hA.below ((Below.refl _ _).alloc (Nat.le_refl _) _)).below (below_drewNv (Below.refl _ _) _)⟩
                        · have p5z : ¬ ((191 : Int) < (x3.toNat : Int)) := by omega
                          go_big_quiet (fail)
                          go_wp2
                          go_meet
                          exact ⟨congrArg Value.bool (decide_eq_false (p := t.size < 4 ∨ x1.toNat < LO ∨ HI < x1.toNat ∨ x2.toNat < 128 ∨ 191 < x2.toNat ∨ x3.toNat < 128 ∨ 191 < x3.toNat) (by omega)).symm, below_drewNv (hbw.alloc hbw.size _) _, (hA.below ((Below.refl _ _).alloc (Nat.le_refl _) _)).below (below_drewNv (Below.refl _ _) _)⟩
          case rest =>
            obtain ⟨rfl, hbc, hAc⟩ := hcut
            by_cases hb : t.size < 4 ∨ x1.toNat < LO ∨ HI < x1.toNat ∨ x2.toNat < 128 ∨ 191 < x2.toNat ∨ x3.toNat < 128 ∨ 191 < x3.toNat
            · have hbd : decide (t.size < 4 ∨ x1.toNat < LO ∨ HI < x1.toNat ∨ x2.toNat < 128 ∨ 191 < x2.toNat ∨ x3.toNat < 128 ∨ 191 < x3.toNat) = true := decide_eq_true hb
              rw [if_pos hb] at hlead
              go_wp2
              all_goals (go_ret; exact ⟨by first | rfl | rw [hlead], hbc⟩)
            · have hbd : decide (t.size < 4 ∨ x1.toNat < LO ∨ HI < x1.toNat ∨ x2.toNat < 128 ∨ 191 < x2.toNat ∨ x3.toNat < 128 ∨ 191 < x3.toNat) = false := decide_eq_false hb
              rw [if_neg hb] at hlead
              obtain ⟨on, tn, htn, zn, hcutn, hAn⟩ := cutAt _ g o t 4 4 rfl (by omega) hAc
              go_wp2
              go_roundg g'
              case measure => omega
              case rel => exact ⟨hbc, on, tn, rfl, hAn, by rw [← htn, Lib.ext_list, hlead], by omega, by omega⟩
        have e2 : ¬ ((X : Int) % 8 = 2) := by omega
        have e3 : ¬ ((X : Int) % 8 = 3) := by omega
        have e4 : ¬ ((X : Int) % 8 = 4) := by omega
        have e2b : (((X : Int) % 8) == 2) = false := by simp; omega
        have e3b : (((X : Int) % 8) == 3) = false := by simp; omega
        have e4b : (((X : Int) % 8) == 4) = false := by simp; omega
        simp only [Lib.checkN, s2, s3, s4, if_false] at hlead
        go_wp2
        all_goals (go_ret; exact ⟨by first | rfl | rw [hlead], hbw.alloc hbw.size _⟩)
    · have h0z : ¬ ((0 : Int) < (t.size : Int)) := by omega
      have ht0 : t.data.toList = [] := List.eq_nil_of_length_eq_zero (by rw [← Lib.size_eq]; omega)
      rw [ht0, Lib.validD_nil] at hv
      subst hv
      go_wp2
      go_ret
      exact ⟨rfl, hbw⟩

end Go.Proofs.YtmfffpfenhgjbaaDoor.G
