/- The given contract of spanout.Fence: how many backticks enclose a code. -/
import Derived.Test.YtmfffpfenhgjbaaDoorPNormAll
import Derived.Test.YtmfffpfenhgjbaaDoorPReadAll
import Derived.Test.YtmfffpfenhgjbaaDoorWAll
import Derived.Maps.OwnOps
import Derived.Maps.Views
import Derived.BigQuiet
import Derived.Outline
set_option linter.unusedVariables false
set_option linter.unusedSimpArgs false
namespace Go
open Go.Maps (Keyed)
theorem plainElem_bool_invYtmfffpfenhgjbaaDoor {H : Type} {P : Program} {e : TypeId} (he : P.underlying e = some .bool) {v : Value} {z : DataW H × List MemPlace} (h : plainElem P e v = some z) : ∃ x, v = .bool x ∧ z = (.lit (.bool x), []) := by
  unfold plainElem at h
  rw [he] at h
  cases v <;> simp at h
  exact ⟨_, rfl, h.symm⟩
/-- 'm[k]' at elements that are bools. -/
theorem wpList_lookup_own_boolYtmfffpfenhgjbaaDoor {H : Type} {P : Program} (w : World) {ops : Array Oper} {rest : List Oper} {o : Oper} {a : Act} {Q : Exit → Act → World → Prop}
    (hg : o.guard = none) (m x : Operand) (t : TypeId) (hop : o.op = Op.lookup t m x false)
    (k e : TypeId) (K : Keyed P k) (ht : P.underlying t = some (.map k e)) (he : P.underlying e = some .bool) (hz : (zeroValue e).run P w = .ok (.bool false) w) (b n : Nat) (D : DataW H)
    (hm : a.eval m = .map (some b)) (hown : w.ownsMap P k (plainElem P e) b n D) (key : Value) (kl : Lit) (hx : a.eval x = key) (hkey : keyOf P k key = some kl)
    (c : Bool) (hat : D.atKey kl (.lit (.bool false)) = .lit (.bool c)) (hK : wpList P ops Q rest (a.put o.dst (.bool c)) w) :
    wpList P ops Q (o :: rest) a w := by
  refine wpList_plain hg fun K' hK' => ?_
  obtain ⟨v, ps, hrun, hv⟩ := hown.lookup K ht hz (plainElem_bool he false) hkey
  obtain ⟨c', rfl, hc⟩ := plainElem_bool_invYtmfffpfenhgjbaaDoor he hv
  simp only [Prod.mk.injEq] at hc
  have hcc := hc.1
  rw [hat] at hcc
  injection hcc with hcc
  injection hcc with hcc
  subst hcc
  unfold Oper.wp
  simp [execOp, hop, hm, hx, hrun, Result.andThen]
  exact hK' _ _ hK
end Go
namespace Go.Proofs.YtmfffpfenhgjbaaDoor.G
open Go.RowKit Go.Lib Go.Proofs Go.Maps Go.Proofs.YtmfffpfenhgjbaaDoor.X Go.Proofs.YtmfffpfenhgjbaaDoor.Pure Go.Proofs.YtmfffpfenhgjbaaDoorW.PrintWords Go.Proofs.YtmfffpfenhgjbaaDoorW.PrintLast Go.Proofs.YtmfffpfenhgjbaaDoorW.PrintMore
theorem ownsMap_below {P : Program} {k b n : Nat} {R : Value → Option (DataW Unit × List MemPlace)} {W W' : World} {D : DataW Unit} (h : W.ownsMap P k R b n D) (hb : Below W.heap.size W W') : W'.ownsMap P k R b n D :=
  h.kept (row := none) ⟨hb.os, hb.tape, hb.output, hb.size, fun k hk _ => hb.block k hk⟩ (by simp)
theorem fence_key : Keyed Tryd.prog 3 := int_keyed Tryd.underlying3
theorem fence_zero (w : World) : (zeroValue 4).run Tryd.prog w = .ok (.bool false) w := by kernel_rfl
def fz : DataW Unit := .lit (.bool false)
theorem quiet_at {P : Program} {f : FuncId} {args : Array Value} {v : Ending} (W : World) (h : ∀ W, Calls P f args W fun e w' => e = v ∧ Drawn0 W w') : ∀ n, Calls P f args (W.drewN n) fun e w' => e = v ∧ ∃ n, w' = W.drewN n := fun n =>
  (h _).mono (by
    rintro e w' ⟨rfl, ⟨x, rfl⟩⟩
    exact ⟨rfl, n + x, World.drewN_drewN _ _ _⟩)
/-- What the map tells of the runs behind a place. -/
def FenceAt (D : DataW Unit) (l t : List UInt8) : Prop := IsMap D ∧ ∀ m : Nat, 1 ≤ m → ∃ b : Bool, D.atKey (.int .i64 (m : Int)) fz = .lit (.bool b) ∧ (b || runB m t) = runB m l
theorem fenceAt_start (l : List UInt8) : FenceAt (.map []) l l := ⟨isMap_empty, fun m _ => ⟨false, rfl, by simp⟩⟩
theorem ticks_drop : ∀ l : List UInt8, ticksL (l.drop (ticksL l)) = 0
  | [] => rfl
  | c :: t => by
    rw [ticksL]
    by_cases h : c.toNat = 96
    · rw [if_pos h, List.drop_succ_cons]; exact ticks_drop t
    · rw [if_neg h, List.drop_zero, ticksL, if_neg h]
theorem run_step (m : Nat) (hm : 1 ≤ m) (l : List UInt8) (h : l ≠ []) : runB m l = (decide (ticksL l = m) || runB m (l.drop (ticksL l + 1))) := by
  cases l with
  | nil => exact absurd rfl h
  | cons c t =>
    rw [runB_cons]
    by_cases e : ticksL (c :: t) = m
    · rw [if_pos e, decide_eq_true e, Bool.true_or]
    · rw [if_neg e, decide_eq_false e, Bool.false_or]
      rcases Nat.eq_zero_or_pos (ticksL (c :: t)) with z | z
      · rw [z]; rfl
      · have h1 := ticks_drop (c :: t)
        rw [Nat.max_eq_left z, ← List.drop_drop]
        generalize (c :: t).drop (ticksL (c :: t)) = r at h1
        cases r with
        | nil => rfl
        | cons d r => rw [runB_cons, h1, if_neg (by omega)]; rfl
theorem fenceAt_step {D : DataW Unit} {l t : List UInt8} (h : FenceAt D l t) (ht : t ≠ []) : FenceAt (D.put (.int .i64 ((ticksL t : Nat) : Int)) (.lit (.bool true))) l (t.drop (ticksL t + 1)) := by
  refine ⟨h.1.put _ _, fun m hm => ?_⟩
  obtain ⟨b, h1, h2⟩ := h.2 m hm
  by_cases e : ticksL t = m
  · subst e
    refine ⟨true, atKey_put_same h.1 (show WideAt.IsKeyLit (.int .i64 ((ticksL t : Nat) : Int)) from trivial) _ _, ?_⟩
    rw [← h2, run_step _ hm t ht, decide_eq_true rfl]; simp
  · refine ⟨b, (atKey_put_other (by intro q; injection q with _ q; omega) _ _).trans h1, ?_⟩
    rw [← h2, run_step m hm t ht, decide_eq_false e, Bool.false_or]
theorem fenceAt_end {D : DataW Unit} {l t : List UInt8} (h : FenceAt D l t) (ht : t = []) (m : Nat) (hm : 1 ≤ m) : D.atKey (.int .i64 (m : Int)) fz = .lit (.bool (runB m l)) := by
  obtain ⟨b, h1, h2⟩ := h.2 m hm
  rw [h1]
  congr 2
  subst ht
  rw [← h2, runB_nil, Bool.or_false]
set_option maxHeartbeats 8000000 in
set_option maxRecDepth 1000000 in
theorem fence_calls (s : ByteArray) (w : World) (hs : s.size ≤ 1000000) :
    Calls Tryd.prog 36 #[.string s] w fun e w' => e = .returned (.int .i64 ((fenceL (L s) : Nat) : Int)) ∧ Below w.heap.size w w' := by
  have HS := Aside0.mk hs
  have hmm := @run_makeMap Tryd.prog
  clear hs
  go_enter Tryd.func36, Tryd.ntmps36
  go_wp2_with fail
  go_loopw [4] (fun v4 wr => ∃ (i : Nat) (D : DataW Unit), v4 = .int .i64 (i : Int) ∧ i ≤ s.size + 1 ∧ wr.ownsMap Tryd.prog 3 (plainElem Tryd.prog 4) w.heap.size i D ∧ FenceAt D (L s) ((L s).drop i) ∧ Below w.heap.size w wr) (fun v4 _ => s.size + 2 - (intOf v4).toNat)
  case atStart => exact ⟨0, .map [], rfl, Nat.zero_le _, World.ownsMap_made _ _ _ _, fenceAt_start _, (Below.refl _ _).alloc (Nat.le_refl _) _⟩
  case round =>
    obtain ⟨i, D, rfl, hi, hown, hat, hbw⟩ := hrel
    have hsz := HS.out
    by_cases hlt : i < s.size
    · have hd : decide ((i : Int) < (s.size : Int)) = true := decide_eq_true (by omega)
      have hne : (L s).drop i ≠ [] := by intro h; have := congrArg List.length h; rw [List.length_drop, ← L_size, List.length_nil] at this; omega
      have e := L_from s i
      have htl := ticksL_le ((L s).drop i)
      rw [List.length_drop, ← L_size] at htl
      have hes : (s.extract i s.size).size < s.size + 1 := by rw [L_size, e, List.length_drop, ← L_size]; omega
      have h96 : ((((⟨#[96]⟩ : ByteArray)[0]'(by decide)).toNat : Nat) : Int) = 96 := rfl
      have cR := fun W => lines_Run.calls (s.size + 1) (s.extract i s.size) ((((⟨#[96]⟩ : ByteArray)[0]'(by decide)).toNat : Nat) : Int) _ W (by rw [h96]; exact Run_ticks _ (s.size + 1) (by omega) hes)
      rw [e] at cR
      have hstep := fenceAt_step hat hne
      rw [List.drop_drop] at hstep
      have HST := Aside0.mk hstep
      have HB := Aside0.mk hbw
      generalize ticksL ((L s).drop i) = m at *
      have HO := Aside0.mk hown
      have hm9 : (m : Int) ≤ 1000000 := by omega
      have HTL := Aside0.mk htl
      have HOq := Aside0.mk (fun n => ownsMap_below hown (Drawn0.below (w := wr) (w' := wr.drewN n) ⟨⟨n, rfl⟩⟩))
      have HBq := Aside0.mk (fun n => hbw.trans (Below.mono (Drawn0.below (w := wr) (w' := wr.drewN n) ⟨⟨n, rfl⟩⟩) hbw.size))
      have HMX := Aside0.mk (show i < maxLen by unfold maxLen; omega)
      have HWF := Aside0.mk (show (Lit.int .i64 (m : Int)).wf = true from WalkArith.wf_i64 (by omega))
      clear hstep hat hne htl e hown hbw hes h96
      have cQ := quiet_at wr cR
      clear cR
      go_wp2_with fail
      go_big_quiet ((go_at_call 51; exact cQ _))
      go_wp2_with (at_mapUpdate; refine wpList_mapUpdate_own _ rfl _ _ _ 65 rfl 3 4 fence_key Tryd.underlying65 _ w.heap.size i _ rfl (HOq.out _) HMX.out _ _ _ rfl rfl (keyOf_int_mk Tryd.underlying3 HWF.out) _ [] (plainElem_bool Tryd.underlying4 true) ?_; intro w1 hown1 hgrow1)
      have htl := HTL.out
      have hKI : (i : Int) + (m : Int) + 1 = ((i + (m + 1) : Nat) : Int) := by omega
      rw [hKI]
      refine ⟨⟨i + (m + 1), _, rfl, by omega, hown1.mono (by omega), HST.out, (HBq.out nq).trans ((Below.refl _ _).grown hgrow1 (HBq.out nq).size (fun j hj => by cases hj; exact Nat.le_refl _))⟩, ?_⟩
      simp only [intOf, Int.toNat_natCast]
      omega
    · have hd : decide ((i : Int) < (s.size : Int)) = false := decide_eq_false (by omega)
      have hnil : (L s).drop i = [] := List.drop_eq_nil_of_le (by rw [← L_size]; omega)
      have hlook := fenceAt_end hat hnil
      have HLOOK := Aside0.mk hlook
      have HOWN := Aside0.mk hown
      have HB := Aside0.mk hbw
      clear hat hlook hown hbw hnil
      go_wp2_with fail
      go_loopw [6] (fun v6 wr' => ∃ n k : Nat, v6 = .int .i64 (n : Int) ∧ 1 ≤ n ∧ n + k = (L s).length + 2 ∧ fenceF (L s) k n = fenceL (L s) ∧ wr' = wr) (fun v6 _ => s.size + 3 - (intOf v6).toNat)
      case atStart => exact ⟨1, (L s).length + 1, rfl, Nat.le_refl _, by omega, rfl, rfl⟩
      case round =>
        obtain ⟨n, k, rfl, hn, hk, hF, rfl⟩ := hrel
        have HSL := Aside0.mk (L_size s)
        have hat := HLOOK.out n hn
        have HWF := Aside0.mk (show (Lit.int .i64 (n : Int)).wf = true from WalkArith.wf_i64 (by have := HSL.out; omega))
        have hn9 : n < 1000003 := by have := HSL.out; omega
        cases hr : runB n (L s) with
        | true =>
          rw [hr] at hat
          have HAT := Aside0.mk hat
          have hk0 : 1 ≤ k := by
            rcases Nat.eq_zero_or_pos k with z | z
            · rw [runB_big n _ (L s) (Nat.le_refl _) (by omega)] at hr; cases hr
            · exact z
          obtain ⟨k, rfl⟩ : ∃ j, k = j + 1 := ⟨k - 1, by omega⟩
          rw [fenceF, hr, if_pos rfl] at hF
          have HFF := Aside0.mk hF
          clear hF hat hr
          go_wp2_with (at_lookup; refine wpList_lookup_own_boolYtmfffpfenhgjbaaDoor _ rfl _ _ 65 rfl 3 4 fence_key Tryd.underlying65 Tryd.underlying4 (fence_zero _) w.heap.size i D rfl HOWN.out _ _ rfl (keyOf_int_mk Tryd.underlying3 HWF.out) true HAT.out ?_)
          have hKI : (n : Int) + 1 = ((n + 1 : Nat) : Int) := by omega
          go_roundw
          case rel => exact ⟨n + 1, k, congrArg _ hKI, by omega, by omega, HFF.out, trivial⟩
          case measure => have := HSL.out; rw [hKI]; simp only [intOf, Int.toNat_natCast]; omega
        | false =>
          rw [hr] at hat
          have HAT := Aside0.mk hat
          have hF2 : fenceL (L s) = n := by
            rw [← hF]
            cases k with
            | zero => rfl
            | succ k => rw [fenceF, hr, if_neg (by decide)]
          have HFF := Aside0.mk hF2
          clear hF hat hr hF2
          go_wp2_with (at_lookup; refine wpList_lookup_own_boolYtmfffpfenhgjbaaDoor _ rfl _ _ 65 rfl 3 4 fence_key Tryd.underlying65 Tryd.underlying4 (fence_zero _) w.heap.size i D rfl HOWN.out _ _ rfl (keyOf_int_mk Tryd.underlying3 HWF.out) false HAT.out ?_)
          go_ret
          exact ⟨by rw [HFF.out]; rfl, HB.out⟩
def spanout_Fence.f (a0 : ByteArray) : Option Int := if a0.size ≤ 1000000 then some ((fenceL (L a0) : Nat) : Int) else none
theorem spanout_Fence.calls (a0 : ByteArray) (r : Int) (w : World) (h : spanout_Fence.f a0 = some r) :
    Calls Tryd.prog 36 #[.string a0] w fun e w' => e = .returned (.int .i64 r) ∧ Below w.heap.size w w' := by
  unfold spanout_Fence.f at h
  split at h
  · obtain rfl := Option.some.inj h
    rename_i hs
    exact fence_calls a0 w hs
  · cases h
end Go.Proofs.YtmfffpfenhgjbaaDoor.G
